/- Steps of a region that draws its order, one lemma for each kind of operation. No program in sight. -/
import Derived.Test.YtnobkdkfhgjeeabRegion
import Derived.ArgAppend
import Derived.Test.YtnobkdkfhgjeeabLawKit
namespace Go.Proofs.Ytnobkdkfhgjeeab
open Go.RowKit

theorem gives_val {P : Program} {o : Oper} {ρ : Operand → Value} {w w' : World} {u : Value} {post : Value → World → Prop} (hr : (execOp ρ o).run P w = .ok (.value u) w') (hp : post u w') : gives P o ρ w post := by
  unfold gives; rw [hr]; exact hp
theorem gives_skip {P : Program} {o : Oper} {ρ : Operand → Value} {w w' : World} {post : Value → World → Prop} (hr : (execOp ρ o).run P w = .ok .skip w') (hp : post undef w') : gives P o ρ w post := by
  unfold gives; rw [hr]; exact hp
theorem gives_call {P : Program} {o : Oper} {ρ : Operand → Value} {w w' : World} {f : FuncId} {args : Array Value} {post : Value → World → Prop} (hr : (execOp ρ o).run P w = .ok (.enter f args) w') (hp : Calls P f args w' (fun e w'' => ∃ u, e = .returned u ∧ post u w'')) : gives P o ρ w post := by
  unfold gives; rw [hr]; exact hp

/-- What stays put: a value that is known, in the very world. -/
theorem Below.same (w : World) : Below w.heap.size w w := Below.refl _ _

/-- 'append' onto a slice without room: nothing that was there turns. -/
theorem run_append_new {P : Program} {w : World} (t ty : TypeId) {B : Nat} {e : TypeId} {z : Value} {size bytes : Nat} (ht : P.underlying t = some (.slice e)) (hinfo : (P.info? e).map (fun i => (i.zero, i.size, i.bytes)) = some (some z, size, bytes))
    (hzs : z.cells.size = size) (hsz : 0 < size) {a : Option Addr} (hown : w.ownsRow B e size (.slice a 0 0) 0 [])
    {a2 : Option Addr} {m c2 : Nat} {news : List Value} (hl : news.length = m * size) (hsrc : Rd w a2 news) (h1 : ∀ u ∈ news, u.oneCell' = true) (hbytes : m * bytes ≤ 140737488355328) (hby : 0 < bytes) (hbase : B ≤ w.heap.size) :
    ∃ a' c' w', (Builtin.append_ #[t, t] ty #[.slice a 0 0, .slice a2 m c2]).run P w = .ok (.slice a' m c') w' ∧ w'.ownsRow B e size (.slice a' m c') m news ∧ Below w.heap.size w w' ∧ (0 < m → ∀ k, rowOf a' = some k → w.heap.size ≤ k) ∧ (m = 0 → c' = 0) := by
  obtain ⟨i, hi, hz0, hz1, hz2⟩ := info_parts hinfo
  have h63 : 0 + m ≤ maxLen := by
    have := Nat.le_trans (Nat.le_mul_of_pos_right m hby) hbytes
    simp only [maxLen]; omega
  by_cases hm : m = 0
  · subst hm
    obtain rfl : news = [] := List.eq_nil_of_length_eq_zero (by simpa using hl)
    refine ⟨a, 0, w, ?_, hown, Below.refl _ _, by omega, fun _ => rfl⟩
    cases a2 with
    | none => exact run_append_owned_none' (P := P) (w := w) B t ty e i size ht hi _ 0 [] hown c2
    | some ad =>
      cases a with
      | none => simp [Builtin.append_, run_underlying ht, sizeOf, typeInfo, hi, Builtin.lenOf, Builtin.firstCells, loadCells, loadCellsFrom]
      | some b => simp [Builtin.append_, run_underlying ht, sizeOf, typeInfo, hi, Builtin.lenOf, Builtin.firstCells, loadCells, loadCellsFrom, storeCells]
  · have ha2 : ∃ ad, a2 = some ad := by
      cases a2 with
      | some ad => exact ⟨ad, rfl⟩
      | none =>
        exfalso
        obtain ⟨b, o', e', _⟩ := hsrc.at (by rw [hl]; exact Nat.mul_pos (by omega) hsz)
        cases e'
    obtain ⟨ad, rfl⟩ := ha2
    have hnews : ∀ j u, news[j]? = some u → w.cell? (ad.add j) = some u := by
      intro j u hj
      have hjl : j < news.length := (List.getElem?_eq_some_iff.1 hj).1
      obtain ⟨b, o', e', hc⟩ := hsrc.at (by omega)
      cases e'
      rw [Addr.add_lit, hc j hjl]
      rw [List.getD_eq_getElem?_getD, hj]; rfl
    have key : ∃ v' w', (Builtin.append_ #[t, t] ty #[.slice a 0 0, .slice (some ad) m c2]).run P w = .ok v' w' ∧ w'.ownsRow w.heap.size e size v' (0 + m) ([] ++ news) ∧ w.grownBy w' none := by
      cases a with
      | some b => exact run_append_arg_grows (P := P) w t ty e i z size bytes ht hi hz0 hz1 hz2 hzs hsz b 0 0 [] (by simp) (by simp) ad m c2 news hl hnews (by omega) h63 (by simpa using hbytes)
      | none =>
        obtain ⟨v', w', hrun, r1, r2, _⟩ := run_append_own (P := P) w w.heap.size t ty e i z size bytes ht hi hz0 hz1 hz2 hzs hsz (.slice none 0 0) 0 [] (World.ownsRow_nil w _ e size) ad m c2 news hl hnews h1 h63 (by simpa using hbytes) (Nat.le_refl _)
        exact ⟨v', w', hrun, r1, r2⟩
    obtain ⟨v', w', hrun, r1, r2⟩ := key
    rw [Nat.zero_add, List.nil_append] at r1
    obtain ⟨a', c', rfl⟩ := owns_slice r1
    exact ⟨a', c', w', hrun, owns_mono r1 hbase, below_of_grown r2 (Nat.le_refl _) (by simp), fun _ k hk => (owns_row r1 k hk).1, fun h0 => absurd h0 hm⟩

theorem gives_append_new {P : Program} {o : Oper} {ρ : Operand → Value} {w : World} {post : Value → World → Prop} (s x : Operand) (t : TypeId)
    (ho : o.op = .call { callee := .builtin .append, args := #[s, x], argTypes := #[t, t] }) {B : Nat} {e : TypeId} {z : Value} {size bytes : Nat} (ht : P.underlying t = some (.slice e)) (hinfo : (P.info? e).map (fun i => (i.zero, i.size, i.bytes)) = some (some z, size, bytes))
    (hzs : z.cells.size = size) (hsz : 0 < size) {a : Option Addr} (hs : ρ s = .slice a 0 0) (hown : w.ownsRow B e size (.slice a 0 0) 0 [])
    {a2 : Option Addr} {m c2 : Nat} {news : List Value} (hx : ρ x = .slice a2 m c2) (hl : news.length = m * size) (hsrc : Rd w a2 news) (h1 : ∀ u ∈ news, u.oneCell' = true) (hbytes : m * bytes ≤ 140737488355328) (hby : 0 < bytes) (hbase : B ≤ w.heap.size)
    (h : ∀ a' c' w', w'.ownsRow B e size (.slice a' m c') m news → Below w.heap.size w w' → (0 < m → ∀ k, rowOf a' = some k → w.heap.size ≤ k) → (m = 0 → c' = 0) → post (.slice a' m c') w') : gives P o ρ w post := by
  obtain ⟨a', c', w', hr, h2, h3, h4, h5⟩ := run_append_new (P := P) (c2 := c2) t o.type ht hinfo hzs hsz hown hl hsrc h1 hbytes hby hbase
  refine gives_val (u := .slice a' m c') (w' := w') ?_ (h a' c' w' h2 h3 h4 h5)
  unfold execOp
  simp only [ho, resolve, invoke, builtin, Sem.run_bind, Sem.run_pure, Result.andThen_ok, List.map_toArray, List.map_cons, List.map_nil, hs, hx, hr]

/-- A predicate that outlasts steps which make memory at most. -/
def Stab (r : List Value → Value → World → Prop) : Prop := ∀ ds v w w', Below w.heap.size w w' → r ds v w → r ds v w'
def StabAll : List (List Value → Value → World → Prop) → Prop
  | [] => True
  | r :: rs => Stab r ∧ StabAll rs
theorem stab_of : ∀ {Rs : List (List Value → Value → World → Prop)}, StabAll Rs → ∀ j ds v w w', Below w.heap.size w w' → at' Rs j ds v w → at' Rs j ds v w'
  | [], _, _, _, _, _, _, _, _ => trivial
  | _ :: _, h, 0, ds, v, w, w', hb, hr => h.1 ds v w w' hb hr
  | _ :: rs, h, j + 1, ds, v, w, w', hb, hr => stab_of (Rs := rs) h.2 j ds v w w' hb hr
theorem Stab.pure (p : List Value → Value → Prop) : Stab (fun ds u _ => p ds u) := fun _ _ _ _ _ h => h

/-- One operation's step is of a kind of its own. -/
def St1 (i0 : Nat) (T : World → World → Prop) (i : Nat) (w w' : World) : Prop := if i = i0 then T w w' else Below w.heap.size w w'
def StabBy (T : World → World → Prop) (r : List Value → Value → World → Prop) : Prop := ∀ ds v w w', T w w' → r ds v w → r ds v w'
def StabAllBy (i0 : Nat) (T : World → World → Prop) : Nat → List (List Value → Value → World → Prop) → Prop
  | _, [] => True
  | k, r :: rs => (k = i0 ∨ StabBy T r) ∧ StabAllBy i0 T (k + 1) rs
theorem stabBy_of {i0 : Nat} {T : World → World → Prop} : ∀ {Rs : List (List Value → Value → World → Prop)} {k : Nat}, StabAllBy i0 T k Rs → ∀ j ds v w w', k + j ≠ i0 → T w w' → at' Rs j ds v w → at' Rs j ds v w'
  | [], _, _, _, _, _, _, _, _, _, _ => trivial
  | _ :: _, _, h, 0, ds, v, w, w', hne, hT, hr => h.1.elim (fun e => absurd e hne) (fun h => h ds v w w' hT hr)
  | _ :: rs, k, h, j + 1, ds, v, w, w', hne, hT, hr => stabBy_of (Rs := rs) (k := k + 1) h.2 j ds v w w' (by omega) hT hr
theorem stab1_of {i0 : Nat} {T : World → World → Prop} {Rs : List (List Value → Value → World → Prop)} (h1 : StabAll Rs) (h2 : StabAllBy i0 T 0 Rs) : ∀ i j ds v w w', i ≠ j → St1 i0 T i w w' → at' Rs j ds v w → at' Rs j ds v w' := by
  intro i j ds v w w' hne hS hr
  unfold St1 at hS
  split at hS
  · next e => subst e; exact stabBy_of h2 j ds v w w' (by omega) hS hr
  · exact stab_of h1 j ds v w w' hS hr
theorem st1_size {i0 : Nat} {T : World → World → Prop} (hT : ∀ w w', T w w' → w.heap.size ≤ w'.heap.size) : ∀ i w w', St1 i0 T i w w' → w.heap.size ≤ w'.heap.size := by
  intro i w w' h
  unfold St1 at h
  split at h
  · exact hT _ _ h
  · exact h.size
theorem st1_below {i0 : Nat} {T : World → World → Prop} {i : Nat} {w w' : World} (hne : i ≠ i0) (h : Below w.heap.size w w') : St1 i0 T i w w' := by
  unfold St1; rw [if_neg hne]; exact h
theorem st1_own {i0 : Nat} {T : World → World → Prop} {w w' : World} (h : T w w') : St1 i0 T i0 w w' := by
  unfold St1; rw [if_pos rfl]; exact h

/-- While the writing operation i0 is to come, nothing has turned; it writes the blocks of S. -/
def Stage (i0 : Nat) (S : List Nat) (W1 : World) (L : Nat → Bool) (w : World) : Prop := (L i0 = false → Below W1.heap.size W1 w) ∧ Touch S W1 w
theorem Stage.start (i0 : Nat) (S : List Nat) (W1 : World) : ∀ L : Nat → Bool, (∀ j, L j = false) → Stage i0 S W1 L W1.drew := fun _ _ => ⟨fun _ => (Below.refl _ _).drew, Touch.of_below (Below.refl _ _).drew⟩
theorem Stage.step {i0 : Nat} {S : List Nat} {W1 w w' : World} {L : Nat → Bool} (h : Stage i0 S W1 L w) {i : Nat} (_hne : i ≠ i0) (hb : Below w.heap.size w w') : Stage i0 S W1 (fun j => decide (j = i) || L j) w' :=
  ⟨fun hL => by
    have : L i0 = false := by
      simp only [Bool.or_eq_false_iff] at hL
      exact hL.2
    exact (h.1 this).trans (hb.mono (h.1 this).size), h.2.trans (Touch.of_below hb)⟩
theorem Stage.own {i0 : Nat} {S : List Nat} {W1 w w' : World} {L : Nat → Bool} (h : Stage i0 S W1 L w) (ht : Touch S w w') : Stage i0 S W1 (fun j => decide (j = i0) || L j) w' :=
  ⟨fun hL => by simp at hL, h.2.trans ht⟩

theorem len_cons {vs : List Value} {n : Nat} (h : vs.length = n + 1) : ∃ x xs, vs = x :: xs ∧ xs.length = n := by
  cases vs with
  | nil => simp at h
  | cons x xs => exact ⟨x, xs, rfl, by simpa using h⟩
theorem len_nil {vs : List Value} (h : vs.length = 0) : vs = [] := List.eq_nil_of_length_eq_zero h

/-- The own block of a slice of n elements, where n is not 0. -/
def slBk (n : Nat) (v : Value) : Option Nat := if n = 0 then none else v.ownBlock
def ptBk : Value → Option Nat
  | .pointer (some a) => some a.block
  | _ => none

theorem slBk_new {w w' : World} {B : Nat} {e : TypeId} {sz m c : Nat} {a : Option Addr} {cs : List Value} (hown : w'.ownsRow B e sz (.slice a m c) m cs) (hf : 0 < m → ∀ k, rowOf a = some k → w.heap.size ≤ k) : ∀ k, slBk m (.slice a m c) = some k → w.heap.size ≤ k ∧ k < w'.heap.size := by
  intro k hk
  unfold slBk at hk
  by_cases hm : m = 0
  · rw [if_pos hm] at hk; cases hk
  · rw [if_neg hm, ownBlock_slice] at hk
    exact ⟨hf (by omega) k hk, (owns_row hown k hk).2⟩
theorem ptBk_new (w : World) (o : Obj) : ∀ k, ptBk (.pointer (some ⟨w.heap.size, 0, none⟩)) = some k → w.heap.size ≤ k ∧ k < (w.alloc o).heap.size := by
  intro k hk
  have : w.heap.size = k := by simpa [ptBk] using hk
  subst this
  simp

end Go.Proofs.Ytnobkdkfhgjeeab
