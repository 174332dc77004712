/- 'append' onto an owned row: what shorter rows hold stays. No program in sight. -/
import Derived.Test.YtnobkdkfhgjeeabDelete
namespace Go.Proofs.Ytnobkdkfhgjeeab
open Go.RowKit

/-- Owned rows of at most n elements stay. -/
def KeepsRows (e : TypeId) (size n : Nat) (w w' : World) : Prop := ∀ (B' : Nat) (az : Option Addr) (k cz : Nat) (ys : List Value), k ≤ n → w.ownsRow B' e size (.slice az k cz) k ys → w'.ownsRow B' e size (.slice az k cz) k ys

theorem keeps_of_none {e : TypeId} {size n : Nat} {w w' : World} (h : w.grownBy w' none) : KeepsRows e size n w w' := fun _ _ _ _ _ _ ho => owns_grown ho h (fun _ _ h2 => by cases h2)

theorem owns_cells {w : World} {B : Nat} {e : TypeId} {sz n c g : Nat} {cs : List Value} (h : w.ownsRow B e sz (.slice (some ⟨g, 0, none⟩) n c) n cs) : ∃ cur : Array Value, w.heap[g]? = some (.cells cur e) ∧ cur.size = c * sz := by
  rcases h.2 with ⟨h', _⟩ | ⟨g', cap', cur, h', hb, hg, h1, h2, h3, h4⟩
  · cases h'
  · cases h'
    exact ⟨cur, hg, h3⟩

/-- Cells are written behind the first n elements of an owned row. -/
theorem keeps_room {w : World} {B : Nat} {e : TypeId} {sz n c g : Nat} {cs news : List Value} (h : w.ownsRow B e sz (.slice (some ⟨g, 0, none⟩) n c) n cs) (hl : n * sz + news.length ≤ c * sz) : KeepsRows e sz n w (w.setCells g (n * sz) news) := by
  intro B' az k cz ys hk ho
  obtain ⟨cur, hf, -, -, -, hcl⟩ := owns_full h
  have hg := (owns_setCells news (n * sz) w cur hf (by omega)).2
  by_cases hb : rowOf az = some g
  · rcases ho.2 with ⟨h', h0⟩ | ⟨g', cap', cur', h', hb', hg', h1, h2, h3, h4⟩
    · cases h'; cases hb
    · simp only [Value.slice.injEq, true_and] at h'
      obtain ⟨rfl, rfl⟩ := h'
      obtain rfl : g' = g := by simpa [rowOf] using hb
      obtain ⟨cz', e1, e2⟩ := owns_cells h
      rw [hg'] at e1
      have e3 : cur' = cz' := by simpa using e1
      rw [← e3, h3] at e2
      obtain ⟨cur2, hf2, ht2, -, -, hcl2⟩ := owns_full ho
      have R := owns_setCells news (n * sz) w cur2 hf2 (by omega)
      have R2 := owns_cut R.1 h1
      have hks : k * sz ≤ n * sz := Nat.mul_le_mul_right sz hk
      have e5 : (over (n * sz) news cur2).take (k * sz) = ys := by
        unfold over
        rw [List.append_assoc, List.take_append_of_le_length (by rw [List.length_take]; omega), List.take_take, Nat.min_eq_left hks, ht2]
      rw [e5] at R2
      exact R2
  · exact owns_grown ho hg (fun q h1 h2 => hb (h1.trans h2.symm))

theorem run_append_keep {P : Program} {w : World} (t ty : TypeId) {B : Nat} {e : TypeId} {z : Value} {size bytes : Nat} (ht : P.underlying t = some (.slice e)) (hinfo : (P.info? e).map (fun i => (i.zero, i.size, i.bytes)) = some (some z, size, bytes))
    (hzs : z.cells.size = size) (hsz : 0 < size) {a : Option Addr} {n c : Nat} {xs : List Value} (hown : w.ownsRow B e size (.slice a n c) n xs)
    {a2 : Option Addr} {m c2 : Nat} {news : List Value} (hl : news.length = m * size) (hsrc : Rd w a2 news) (h1 : ∀ u ∈ news, u.oneCell' = true) (hbytes : (n + m) * bytes ≤ 140737488355328) (hby : 0 < bytes) (hbase : B ≤ w.heap.size) :
    ∃ a' c' w', (Builtin.append_ #[t, t] ty #[.slice a n c, .slice a2 m c2]).run P w = .ok (.slice a' (n + m) c') w' ∧ w'.ownsRow B e size (.slice a' (n + m) c') (n + m) (xs ++ news) ∧ w.grownBy w' (rowOf a) ∧ KeepsRows e size n w w' := by
  obtain ⟨i, hi, hz0, hz1, hz2⟩ := info_parts hinfo
  have h63 : n + m ≤ maxLen := by
    have := Nat.le_trans (Nat.le_mul_of_pos_right (n + m) hby) hbytes
    simp only [maxLen]; omega
  cases a2 with
  | none =>
    have hn0 : news = [] := by
      rcases hsrc with h | ⟨b, o, e', _⟩
      · exact h
      · cases e'
    subst hn0
    have hm : m = 0 := by
      simp only [List.length_nil] at hl
      rcases Nat.mul_eq_zero.1 hl.symm with h | h
      · exact h
      · omega
    subst hm
    refine ⟨a, c, w, run_append_owned_none' (P := P) (w := w) B t ty e i size ht hi _ n xs hown c2, by simpa using hown, World.grownBy.refl _ _, keeps_of_none (World.grownBy.refl _ _)⟩
  | some ad =>
    have hnews : ∀ j u, news[j]? = some u → w.cell? (ad.add j) = some u := by
      intro j u hj
      have hjl : j < news.length := (List.getElem?_eq_some_iff.1 hj).1
      obtain ⟨b, o', e', hc⟩ := hsrc.at (by omega)
      cases e'
      rw [Addr.add_lit, hc j hjl]
      rw [List.getD_eq_getElem?_getD, hj]; rfl
    have grew : ∀ v' w', (Builtin.append_ #[t, t] ty #[.slice a n c, .slice (some ad) m c2]).run P w = .ok v' w' → w'.ownsRow w.heap.size e size v' (n + m) (xs ++ news) → w.grownBy w' none → ∃ a' c' w', (Builtin.append_ #[t, t] ty #[.slice a n c, .slice (some ad) m c2]).run P w = .ok (.slice a' (n + m) c') w' ∧ w'.ownsRow B e size (.slice a' (n + m) c') (n + m) (xs ++ news) ∧ w.grownBy w' (rowOf a) ∧ KeepsRows e size n w w' := by
      intro v' w' hrun r1 r2
      obtain ⟨a', c', rfl⟩ := owns_slice r1
      exact ⟨a', c', w', hrun, owns_mono r1 hbase, ⟨r2.os, r2.tape, r2.output, r2.size, fun k hk _ => r2.block k hk (by simp)⟩, keeps_of_none r2⟩
    rcases hown.2 with ⟨h', h0⟩ | ⟨g, cap, cur, h', hb, hg, hnc, hcm, hcs, htake⟩
    · simp only [Value.slice.injEq] at h'
      obtain ⟨rfl, rfl, rfl⟩ := h'
      obtain ⟨v', w', hrun, r1, r2, _⟩ := run_append_own (P := P) w w.heap.size t ty e i z size bytes ht hi hz0 hz1 hz2 hzs hsz (.slice none 0 0) 0 xs (by have := hown.1; simp only [Nat.zero_mul] at this; rw [List.eq_nil_of_length_eq_zero this]; exact World.ownsRow_nil w _ e size) ad m c2 news hl hnews h1 h63 hbytes (Nat.le_refl _)
      exact grew v' w' hrun r1 r2
    · simp only [Value.slice.injEq, true_and] at h'
      obtain ⟨rfl, rfl⟩ := h'
      by_cases hroom : n + m ≤ c
      · obtain ⟨curL, hfull, htk, -, -, hcl⟩ := owns_full hown
        have hmul : n * size + news.length ≤ c * size := by
          rw [hl, ← Nat.add_mul]; exact Nat.mul_le_mul_right size hroom
        have hrun := run_append_room_cells (P := P) (w := w) t ty e i ht hi g 0 n c ad m c2 news (by rw [hz1]; exact hl) hnews h1 hroom
          (fun j hj => by rw [hz1, Nat.zero_add, hfull.cellAt _ (by omega), List.getElem?_eq_getElem (by omega)]; rfl) (fun j _ => hfull.frozenAt _)
        rw [hz1, Nat.zero_add] at hrun
        have R := owns_setCells news (n * size) w curL hfull (by omega)
        have R2 := owns_cut R.1 hroom
        have e5 : (over (n * size) news curL).take ((n + m) * size) = xs ++ news := by
          unfold over
          have hx : xs.length = n * size := hown.1
          rw [htk, Nat.add_mul, ← hl, ← hx, ← List.length_append, List.take_left' rfl]
        rw [e5] at R2
        exact ⟨_, _, _, hrun, R2, R.2, keeps_room hown hmul⟩
      · obtain ⟨v', w', hrun, r1, r2⟩ := run_append_arg_grows (P := P) w t ty e i z size bytes ht hi hz0 hz1 hz2 hzs hsz ⟨g, 0, none⟩ n c xs hown.1 (fun j u hj => by
          have hjl : j < xs.length := (List.getElem?_eq_some_iff.1 hj).1
          rw [Addr.add_lit, Nat.zero_add, hown.cellAt j (by have := hown.1; omega)]; exact hj) ad m c2 news hl hnews (by omega) h63 hbytes
        exact grew v' w' hrun r1 r2

theorem gives_append_keep {P : Program} {o : Oper} {ρ : Operand → Value} {w : World} {post : Value → World → Prop} (s x : Operand) (t : TypeId)
    (ho : o.op = .call { callee := .builtin .append, args := #[s, x], argTypes := #[t, t] }) {B : Nat} {e : TypeId} {z : Value} {size bytes : Nat} (ht : P.underlying t = some (.slice e)) (hinfo : (P.info? e).map (fun i => (i.zero, i.size, i.bytes)) = some (some z, size, bytes))
    (hzs : z.cells.size = size) (hsz : 0 < size) {a : Option Addr} {n c : Nat} {xs : List Value} (hs : ρ s = .slice a n c) (hown : w.ownsRow B e size (.slice a n c) n xs)
    {a2 : Option Addr} {m c2 : Nat} {news : List Value} (hx : ρ x = .slice a2 m c2) (hl : news.length = m * size) (hsrc : Rd w a2 news) (h1 : ∀ u ∈ news, u.oneCell' = true) (hbytes : (n + m) * bytes ≤ 140737488355328) (hby : 0 < bytes) (hbase : B ≤ w.heap.size)
    (h : ∀ a' c' w', w'.ownsRow B e size (.slice a' (n + m) c') (n + m) (xs ++ news) → w.grownBy w' (rowOf a) → KeepsRows e size n w w' → post (.slice a' (n + m) c') w') : gives P o ρ w post := by
  obtain ⟨a', c', w', hr, h2, h3, h4⟩ := run_append_keep (P := P) (c2 := c2) t o.type ht hinfo hzs hsz hown hl hsrc h1 hbytes hby hbase
  refine gives_val (u := .slice a' (n + m) c') (w' := w') ?_ (h a' c' w' h2 h3 h4)
  unfold execOp
  simp only [ho, resolve, invoke, builtin, Sem.run_bind, Sem.run_pure, Result.andThen_ok, List.map_toArray, List.map_cons, List.map_nil, hs, hx, hr]

end Go.Proofs.Ytnobkdkfhgjeeab
