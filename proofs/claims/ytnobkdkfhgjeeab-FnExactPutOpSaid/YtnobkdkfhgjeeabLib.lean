/- Words of this proof, with no program in sight: a slice that reads as a list of cells ('Rd'), rows of numbers that the call owns. -/
import Derived.Test.YtnobkdkfhgjeeabRows
import Derived.WalkKit
import Derived.WalkSmall
import Derived.Lib.Hide
namespace Go.Proofs.Ytnobkdkfhgjeeab
open Go.RowKit

/-- The slice at 'a' reads, cell by cell, as 'cs'. -/
def Rd (w : World) (a : Option Addr) (cs : List Value) : Prop :=
  cs = [] ∨ ∃ b o, a = some ⟨b, o, none⟩ ∧ ∀ j, j < cs.length → w.cell? ⟨b, o + j, none⟩ = some (cs.getD j undef)

theorem Rd.at {w : World} {a : Option Addr} {cs : List Value} (h : Rd w a cs) (hne : 0 < cs.length) :
    ∃ b o, a = some ⟨b, o, none⟩ ∧ ∀ j, j < cs.length → w.cell? ⟨b, o + j, none⟩ = some (cs.getD j undef) := by
  rcases h with rfl | h
  · simp at hne
  · exact h

theorem Rd.nil (w : World) (a : Option Addr) : Rd w a [] := .inl rfl

/-- What a step that keeps the slice's own block leaves. -/
theorem Rd.keep {w w' : World} {a : Option Addr} {cs : List Value} (h : Rd w a cs) (hb : ∀ b o, a = some ⟨b, o, none⟩ → b < w.heap.size → w'.heap[b]? = w.heap[b]?) : Rd w' a cs := by
  rcases h with rfl | ⟨b, o, rfl, hc⟩
  · exact .inl rfl
  · by_cases hne : cs = []
    · exact .inl hne
    · refine .inr ⟨b, o, rfl, fun j hj => ?_⟩
      have h0 := hc j hj
      have hlt := World.block_lt_of_cell? w _ h0
      rw [World.cell?_of_block (w := w) (w' := w') (a := ⟨b, o + j, none⟩) (hb b o rfl hlt)]
      exact h0

theorem Rd.below {w w' : World} {a : Option Addr} {cs : List Value} (h : Rd w a cs) (hb : Below w.heap.size w w') : Rd w' a cs :=
  h.keep fun b _ _ hlt => hb.block b hlt

theorem Rd.drewN {w : World} {a : Option Addr} {cs : List Value} (h : Rd w a cs) (n : Nat) : Rd (w.drewN n) a cs :=
  h.keep fun _ _ _ _ => rfl

/-- Where the row begins, if it has one. -/
def rowOf : Option Addr → Option Nat
  | some a => some a.block
  | none => none

theorem Rd.grown {w w' : World} {a : Option Addr} {cs : List Value} {row : Option Nat} (h : Rd w a cs) (hg : w.grownBy w' row) (hne : rowOf a = none ∨ rowOf a ≠ row) : Rd w' a cs := by
  refine h.keep fun b o e hlt => hg.block b hlt ?_
  subst e
  rcases hne with h | h
  · cases h
  · exact h

/-- A row that the call owns reads. -/
theorem Rd.of_owns {w : World} {B : Nat} {e : TypeId} {sz n c : Nat} {a : Option Addr} {cs : List Value} (h : w.ownsRow B e sz (.slice a n c) n cs) : Rd w a cs := by
  rcases h.2 with ⟨h', h0⟩ | ⟨g, cap, cur, h', hb, hg, hnc, hcm, hcs, htake⟩
  · left
    refine List.eq_nil_of_length_eq_zero ?_
    rw [h.1, h0]; simp
  · right
    simp only [Value.slice.injEq, true_and] at h'
    obtain ⟨rfl, rfl⟩ := h'
    refine ⟨g, 0, rfl, fun j hj => ?_⟩
    rw [Nat.zero_add, h.cellAt j (by rw [← h.1]; exact hj)]
    simp [List.getD, hj]

abbrev ints (xs : List Int) : List Value := xs.map (Value.int .i64)

theorem ints_getD (xs : List Int) (j : Nat) (hj : j < xs.length) : (ints xs).getD j undef = .int .i64 (xs.getD j 0) := by
  simp [ints, List.getD, hj]

/-- A slice of numbers reads as 'xs'. -/
theorem Rd.int {w : World} {a : Option Addr} {xs : List Int} (h : Rd w a (ints xs)) (hne : 0 < xs.length) :
    ∃ b o, a = some ⟨b, o, none⟩ ∧ ∀ j, j < xs.length → w.cell? ⟨b, o + j, none⟩ = some (.int .i64 (xs.getD j 0)) := by
  obtain ⟨b, o, e, hc⟩ := h.at (by simpa using hne)
  exact ⟨b, o, e, fun j hj => by rw [hc j (by simpa using hj), ints_getD xs j hj]⟩

/-- What the row's frame tells of a slice of numbers that came in. -/
theorem Rd.of_cells {w : World} {x : Addr} {zs : List Int} {n : Nat} (hc : ∀ i, i < zs.length → w.cell? (x.add i) = some (.int .i64 (zs.getD i 0))) (hn : n ≤ zs.length) : Rd w (some x) (ints (zs.take n)) := by
  obtain ⟨b, o, far⟩ := x
  by_cases h0 : n = 0
  · subst h0; exact .inl (by simp)
  · cases far with
    | some f =>
      exfalso
      have := hc 0 (by omega)
      simp only [World.cell?, Addr.add] at this
      split at this <;> simp at this
    | none =>
      refine .inr ⟨b, o, rfl, fun j hj => ?_⟩
      simp only [List.length_map, List.length_take] at hj
      have := hc j (by omega)
      rw [Addr.add_lit] at this
      rw [this, ints_getD _ _ (by simp; omega)]
      simp [List.getD, show j < n by omega]

theorem flat_len {α : Type} {f : α → List Value} {sz : Nat} (hf : ∀ x, (f x).length = sz) (l : List α) : (l.flatMap f).length = l.length * sz := by
  induction l with
  | nil => simp
  | cons x l ih => simp [ih, hf, Nat.add_mul]; omega

theorem flat_get {α : Type} {f : α → List Value} {sz : Nat} (hf : ∀ x, (f x).length = sz) (d : α) : ∀ (l : List α) (j i : Nat), j < l.length → i < sz → (l.flatMap f).getD (j * sz + i) undef = (f (l.getD j d)).getD i undef
  | [], j, _, h, _ => by simp at h
  | x :: l, 0, i, _, hi => by
    simp only [List.flatMap_cons, Nat.zero_mul, Nat.zero_add, List.getD_cons_zero]
    rw [List.getD_eq_getElem?_getD, List.getElem?_append_left (by rw [hf]; exact hi), ← List.getD_eq_getElem?_getD]
  | x :: l, j + 1, i, h, hi => by
    have := flat_get hf d l j i (by simpa using h) hi
    simp only [List.flatMap_cons, List.getD_cons_succ]
    rw [← this, List.getD_eq_getElem?_getD, List.getElem?_append_right (by rw [hf, Nat.add_mul]; omega), List.getD_eq_getElem?_getD]
    congr 2
    rw [hf, Nat.add_mul]; omega

/-- A slice of structs reads as 'l', each of 'sz' cells. -/
theorem Rd.flat {α : Type} {f : α → List Value} {sz : Nat} (hf : ∀ x, (f x).length = sz) (d : α) {w : World} {a : Option Addr} {l : List α} (h : Rd w a (l.flatMap f)) (hne : 0 < l.length) (hsz : 0 < sz) :
    ∃ b o, a = some ⟨b, o, none⟩ ∧ ∀ j, j < l.length → ∀ i, i < sz → w.cell? ⟨b, o + j * sz + i, none⟩ = some ((f (l.getD j d)).getD i undef) := by
  obtain ⟨b, o, e, hc⟩ := h.at (by rw [flat_len hf]; exact Nat.mul_pos hne hsz)
  refine ⟨b, o, e, fun j hj i hi => ?_⟩
  rw [Nat.add_assoc, hc (j * sz + i) (by rw [flat_len hf]; have := Nat.mul_le_mul_right sz (show j + 1 ≤ l.length from hj); rw [Nat.add_mul] at this; omega), flat_get hf d l j i hj hi]

theorem flat_take_succ {α : Type} {f : α → List Value} (l : List α) (d : α) (k : Nat) (hk : k < l.length) : (l.take k).flatMap f ++ f (l.getD k d) = (l.take (k + 1)).flatMap f := by
  rw [List.take_add_one, List.getElem?_eq_getElem hk, List.flatMap_append, List.getD_eq_getElem?_getD, List.getElem?_eq_getElem hk]
  simp only [Option.toList_some, List.flatMap_cons, List.flatMap_nil, List.append_nil, Option.getD_some]

theorem below_of_grown {w w' : World} {row : Option Nat} {B : Nat} (hg : w.grownBy w' row) (hB : B ≤ w.heap.size) (hr : ∀ k, row = some k → B ≤ k) : Below B w w' := (Below.refl B w).grown hg hB hr

theorem grown_trans {a b c : World} {row : Option Nat} (h : a.grownBy b row) (k : b.grownBy c row) : a.grownBy c row :=
  ⟨k.os.trans h.os, k.tape.trans h.tape, k.output.trans h.output, Nat.le_trans h.size k.size, fun i hi hne => (k.block i (Nat.lt_of_lt_of_le hi h.size) hne).trans (h.block i hi hne)⟩

theorem grown_below {w w' : World} {row : Option Nat} (h : Below w.heap.size w w') : w.grownBy w' row :=
  ⟨h.os, h.tape, h.output, h.size, fun k hk _ => h.block k hk⟩

theorem grown_drewN {w : World} (row : Option Nat) (n : Nat) : w.grownBy (w.drewN n) row := ⟨rfl, rfl, rfl, Nat.le_refl _, fun _ _ _ => rfl⟩

theorem below_drewN' {B : Nat} (w : World) (n : Nat) : Below B w (w.drewN n) := below_drewN (Below.refl _ _) n

/-- An owned row over a step that does not touch its block. -/
theorem owns_keep {w w' : World} {B : Nat} {e : TypeId} {sz n : Nat} {v : Value} {cs : List Value} (h : w.ownsRow B e sz v n cs) (hb : ∀ k, v.ownBlock = some k → k < w.heap.size → w'.heap[k]? = w.heap[k]?) : w'.ownsRow B e sz v n cs := by
  refine ⟨h.1, ?_⟩
  rcases h.2 with hn | ⟨g, cap, cur, rfl, hb', hgg, rest⟩
  · exact .inl hn
  · refine .inr ⟨g, cap, cur, rfl, hb', ?_, rest⟩
    rw [hb g rfl (Array.getElem?_eq_some_iff.1 hgg).1]
    exact hgg

theorem owns_below {w w' : World} {B : Nat} {e : TypeId} {sz n : Nat} {v : Value} {cs : List Value} (h : w.ownsRow B e sz v n cs) (hb : Below w.heap.size w w') : w'.ownsRow B e sz v n cs :=
  owns_keep h fun k _ hk => hb.block k hk

theorem owns_mono {w : World} {B B' : Nat} {e : TypeId} {sz n : Nat} {v : Value} {cs : List Value} (h : w.ownsRow B e sz v n cs) (hb : B' ≤ B) : w.ownsRow B' e sz v n cs := by
  refine ⟨h.1, ?_⟩
  rcases h.2 with hn | ⟨g, cap, cur, rfl, hb', rest⟩
  · exact .inl hn
  · exact .inr ⟨g, cap, cur, rfl, by omega, rest⟩

theorem owns_at {w : World} {B : Nat} {e : TypeId} {sz n c : Nat} {a : Option Addr} {cs : List Value} (h : w.ownsRow B e sz (.slice a n c) n cs) (hn : 0 < n) : ∃ g, a = some ⟨g, 0, none⟩ ∧ B ≤ g ∧ g < w.heap.size := by
  rcases h.2 with ⟨h', h0⟩ | ⟨g, cap, cur, h', hb, hg, hnc, hcm, hcs, htake⟩
  · omega
  · simp only [Value.slice.injEq, true_and] at h'
    obtain ⟨rfl, rfl⟩ := h'
    exact ⟨g, rfl, hb, (Array.getElem?_eq_some_iff.1 hg).1⟩

theorem ownBlock_slice (a : Option Addr) (n c : Nat) : (Value.slice a n c).ownBlock = rowOf a := by cases a <;> rfl

/-- The row of what is owned lies from B on. -/
theorem owns_row {w : World} {B : Nat} {e : TypeId} {sz n c : Nat} {a : Option Addr} {cs : List Value} (h : w.ownsRow B e sz (.slice a n c) n cs) : ∀ k, rowOf a = some k → B ≤ k ∧ k < w.heap.size := by
  intro k hk
  exact h.lt k (by rw [ownBlock_slice]; exact hk)

/-- One number of an owned row is written. -/
theorem owns_store {w : World} {B : Nat} {e : TypeId} {sz n c g : Nat} {cs : List Value} (h : w.ownsRow B e sz (.slice (some ⟨g, 0, none⟩) n c) n cs) (j : Nat) (u : Value) {cs' : List Value} (e' : cs.set j u = cs') :
    (w.setCell ⟨g, j, none⟩ u).ownsRow B e sz (.slice (some ⟨g, 0, none⟩) n c) n cs' ∧ w.grownBy (w.setCell ⟨g, j, none⟩ u) (some g) := by
  subst e'
  exact h.stored j u

theorem owns_slice {w : World} {B : Nat} {e : TypeId} {sz n : Nat} {v : Value} {cs : List Value} (h : w.ownsRow B e sz v n cs) : ∃ a c, v = .slice a n c := by
  rcases h.2 with ⟨rfl, rfl⟩ | ⟨g, cap, cur, rfl, _⟩
  · exact ⟨none, 0, rfl⟩
  · exact ⟨_, _, rfl⟩

/-- 'append(out, x)': the one element has been laid in a new block; 'out' is owned. -/
theorem wpList_append_sl {P : Program} {wr : World} {o' : Obj} {ops : Array Oper} {rest : List Oper} {o : Oper} {ac : Act} {Q : Exit → Act → World → Prop} (hgd : o.guard = none) (s x : Operand) (t : TypeId)
    (ho : o.op = .call { callee := .builtin .append, args := #[s, x], argTypes := #[t, t] })
    {B : Nat} {e : TypeId} {z : Value} {size bytes : Nat} (ht : P.underlying t = some (.slice e)) (hinfo : (P.info? e).map (fun i => (i.zero, i.size, i.bytes)) = some (some z, size, bytes))
    (hzs : z.cells.size = size) (hsz : 0 < size)
    {a : Option Addr} {n c : Nat} {xs : List Value} (hs : ac.eval s = .slice a n c) (hown : wr.ownsRow B e size (.slice a n c) n xs)
    {m cm : Nat} {news : List Value} (hx : ac.eval x = .slice (some ⟨wr.heap.size, 0, none⟩) m cm) (hl : news.length = m * size) (hnews : o' = .cells news.toArray e) (h1 : ∀ u ∈ news, u.oneCell' = true)
    (hbytes : (n + m) * bytes ≤ 140737488355328) (hby : 0 < bytes) (hbase : B ≤ wr.heap.size)
    (h : ∀ a' c' w', w'.ownsRow B e size (.slice a' (n + m) c') (n + m) (xs ++ news) → wr.grownBy w' (rowOf a) → wpList P ops Q rest (ac.put o.dst (.slice a' (n + m) c')) w') : wpList P ops Q (o :: rest) ac (wr.alloc o') := by
  obtain ⟨i, hi, hz0, hz1, hz2⟩ := info_parts hinfo
  have h63 : n + m ≤ maxLen := by
    have := Nat.le_trans (Nat.le_mul_of_pos_right (n + m) hby) hbytes
    simp only [maxLen]; omega
  refine wpList_append_own (wr.alloc o') hgd s x t ho B e i z size bytes ht hi hz0 hz1 hz2 hzs hsz _ n xs hs (hown.alloc _) ⟨wr.heap.size, 0, none⟩ m cm news hx hl ?_ h1 h63 hbytes (by simp; omega) ?_
  · intro j u hj
    subst hnews
    rw [Addr.add_lit, World.cell?_alloc_at _ _ _ _ rfl]
    simpa using hj
  · intro v' w' hown' hgr _
    obtain ⟨a', c', rfl⟩ := owns_slice hown'
    rw [ownBlock_slice] at hgr
    exact h a' c' w' hown' (grown_trans (World.grownBy_alloc _ _ _) hgr)

/-- An owned row over a step that writes another row alone. -/
theorem owns_grown {w w' : World} {B : Nat} {e : TypeId} {sz n c : Nat} {a : Option Addr} {cs : List Value} {row : Option Nat} (h : w.ownsRow B e sz (.slice a n c) n cs) (hg : w.grownBy w' row)
    (hne : ∀ k, rowOf a = some k → row = some k → False) : w'.ownsRow B e sz (.slice a n c) n cs :=
  owns_keep h fun k hk hlt => hg.block k hlt fun e => by
    rw [ownBlock_slice] at hk
    exact hne k hk e.symm

theorem rd_drewN {w w' : World} {a : Option Addr} {cs : List Value} (h : Rd w a cs) (e : ∃ n, w' = w.drewN n) : Rd w' a cs := by
  obtain ⟨n, rfl⟩ := e; exact h.drewN n
theorem below_of_drewN {w w' : World} {B : Nat} (e : ∃ n, w' = w.drewN n) : Below B w w' := by
  obtain ⟨n, rfl⟩ := e; exact below_drewN' _ _

/-- The cells that a make lays, where the zero is one value in each of its cells. -/
theorem toList_made_const (z : Array Value) (v : Value) (m : Nat) (hs : 0 < z.size) (hz : ∀ i, i < z.size → z[i]! = v) : (madeCells z m).toList = List.replicate m v := by
  apply List.ext_getElem?
  intro j
  by_cases hj : j < m
  · have := hz (j % z.size) (Nat.mod_lt _ hs)
    simp [madeCells, hj, this]
  · simp [madeCells, hj]

/-- Cell after cell is written, from place i on. -/
def puts (cs : List Value) : Nat → List Value → List Value
  | _, [] => cs
  | i, v :: vs => puts (cs.set i v) (i + 1) vs

theorem puts_mid : ∀ (V A B C : List Value), B.length = V.length → puts (A ++ B ++ C) A.length V = A ++ V ++ C
  | [], A, B, C, h => by
    obtain rfl : B = [] := List.eq_nil_of_length_eq_zero (by simpa using h)
    rfl
  | v :: V, A, b :: B, C, h => by
    have e : (A ++ b :: B ++ C).set A.length v = (A ++ [v]) ++ B ++ C := by
      simp
    rw [puts, e]
    have := puts_mid V (A ++ [v]) B C (by simpa using h)
    simp only [List.length_append, List.length_cons, List.length_nil] at this
    rw [this]; simp
  | v :: V, A, [], C, h => by simp at h

/-- The next struct is laid into a row that was made of zeros. -/
theorem puts_flat {α : Type} {f : α → List Value} {sz : Nat} (hf : ∀ x, (f x).length = sz) (d : α) (l : List α) (k : Nat) (z : Value) (hk : k < l.length) :
    puts ((l.take k).flatMap f ++ List.replicate ((l.length - k) * sz) z) (k * sz) (f (l.getD k d)) = (l.take (k + 1)).flatMap f ++ List.replicate ((l.length - (k + 1)) * sz) z := by
  have e : (l.length - k) * sz = sz + (l.length - (k + 1)) * sz := by
    rw [show l.length - k = 1 + (l.length - (k + 1)) from by omega, Nat.add_mul, Nat.one_mul]
  have e2 : ((l.take k).flatMap f).length = k * sz := by rw [flat_len hf]; simp [Nat.min_eq_left (Nat.le_of_lt hk)]
  have := puts_mid (f (l.getD k d)) ((l.take k).flatMap f) (List.replicate sz z) (List.replicate ((l.length - (k + 1)) * sz) z) (by simp [hf])
  rw [e2, flat_take_succ l d k hk] at this
  rw [e, ← this, List.append_assoc, List.replicate_append_replicate]

theorem owns_empty (w : World) (e : TypeId) (sz : Nat) : (w.alloc (.cells #[] e)).ownsRow w.heap.size e sz (.slice (some ⟨w.heap.size, 0, none⟩) 0 0) 0 [] :=
  World.ownsRow_lit w #[] 0 (Nat.le_refl _) (Nat.zero_le _) (by simp)

/-- 'append(out, src...)': 'out' is owned, 'src' reads. -/
theorem wpList_append_src {P : Program} {wr : World} {ops : Array Oper} {rest : List Oper} {o : Oper} {ac : Act} {Q : Exit → Act → World → Prop} (hgd : o.guard = none) (s x : Operand) (t : TypeId)
    (ho : o.op = .call { callee := .builtin .append, args := #[s, x], argTypes := #[t, t] })
    {B : Nat} {e : TypeId} {z : Value} {size bytes : Nat} (ht : P.underlying t = some (.slice e)) (hinfo : (P.info? e).map (fun i => (i.zero, i.size, i.bytes)) = some (some z, size, bytes))
    (hzs : z.cells.size = size) (hsz : 0 < size)
    {a : Option Addr} {n c : Nat} {xs : List Value} (hs : ac.eval s = .slice a n c) (hown : wr.ownsRow B e size (.slice a n c) n xs)
    {a2 : Option Addr} {m c2 : Nat} {news : List Value} (hx : ac.eval x = .slice a2 m c2) (hnil : a2 = none → m = 0 ∧ c2 = 0) (hl : news.length = m * size) (hsrc : Rd wr a2 news) (h1 : ∀ u ∈ news, u.oneCell' = true)
    (hbytes : (n + m) * bytes ≤ 140737488355328) (hby : 0 < bytes) (hbase : B ≤ wr.heap.size)
    (h : ∀ a' c' w', w'.ownsRow B e size (.slice a' (n + m) c') (n + m) (xs ++ news) → wr.grownBy w' (rowOf a) → wpList P ops Q rest (ac.put o.dst (.slice a' (n + m) c')) w') : wpList P ops Q (o :: rest) ac wr := by
  obtain ⟨i, hi, hz0, hz1, hz2⟩ := info_parts hinfo
  have h63 : n + m ≤ maxLen := by
    have := Nat.le_trans (Nat.le_mul_of_pos_right (n + m) hby) hbytes
    simp only [maxLen]; omega
  cases a2 with
  | none =>
    obtain ⟨rfl, rfl⟩ := hnil rfl
    obtain rfl : news = [] := List.eq_nil_of_length_eq_zero (by simpa using hl)
    refine wpList_plain hgd fun K hK' => ?_
    have hrun := run_append_owned_none (P := P) wr B t o.type e i size ht hi _ n xs hown
    unfold Oper.wp
    simp [execOp, ho, resolve, invoke, builtin, hs, hx, hrun, Result.andThen]
    exact hK' _ _ (by simpa using h a c wr (by simpa using hown) (World.grownBy.refl _ _))
  | some ad =>
    refine wpList_append_own wr hgd s x t ho B e i z size bytes ht hi hz0 hz1 hz2 hzs hsz _ n xs hs hown ad m c2 news hx hl ?_ h1 h63 hbytes hbase ?_
    · intro j u hj
      have hjl : j < news.length := (List.getElem?_eq_some_iff.1 hj).1
      obtain ⟨b, o', e', hc⟩ := hsrc.at (by omega)
      cases e'
      rw [Addr.add_lit, hc j hjl]
      rw [List.getD_eq_getElem?_getD, hj]; rfl
    · intro v' w' hown' hgr _
      obtain ⟨a', c', rfl⟩ := owns_slice hown'
      rw [ownBlock_slice] at hgr
      exact h a' c' w' hown' hgr

/-- A row that is owned is nil, or begins somewhere. -/
theorem owns_nil {w : World} {B : Nat} {e : TypeId} {sz n c : Nat} {a : Option Addr} {cs : List Value} (h : w.ownsRow B e sz (.slice a n c) n cs) : a = none → n = 0 ∧ c = 0 := by
  rintro rfl
  rcases h.2 with ⟨h', h0⟩ | ⟨g, cap, cur, h', _⟩
  · simp only [Value.slice.injEq, true_and] at h'; exact ⟨h0, h'.2⟩
  · simp at h'

theorem ints_one (xs : List Int) : ∀ u ∈ ints xs, u.oneCell' = true := ints_oneCell .i64 xs

theorem grown_drew (w : World) (row : Option Nat) : w.grownBy w.drew row := ⟨rfl, rfl, rfl, Nat.le_refl _, fun _ _ _ => rfl⟩

/-- The head of an owned row is owned. -/
theorem owns_take {w : World} {B : Nat} {e : TypeId} {sz n c : Nat} {a : Option Addr} {cs : List Value} (h : w.ownsRow B e sz (.slice a n c) n cs) (k : Nat) (hk : k ≤ n) : w.ownsRow B e sz (.slice a k c) k (cs.take (k * sz)) := by
  have hle : k * sz ≤ n * sz := Nat.mul_le_mul_right sz hk
  refine ⟨by rw [List.length_take, h.1]; omega, ?_⟩
  rcases h.2 with ⟨h', h0⟩ | ⟨g, cap, cur, h', hb, hg, hnc, hcm, hcs, htake⟩
  · simp only [Value.slice.injEq] at h'
    obtain ⟨rfl, _, rfl⟩ := h'
    exact .inl ⟨by rw [show k = 0 from by omega], by omega⟩
  · simp only [Value.slice.injEq, true_and] at h'
    obtain ⟨rfl, rfl⟩ := h'
    exact .inr ⟨g, c, cur, rfl, hb, hg, by omega, hcm, hcs, by rw [← htake, List.take_take, Nat.min_eq_left hle]⟩

theorem owns_cap {w : World} {B : Nat} {e : TypeId} {sz n c : Nat} {a : Option Addr} {cs : List Value} (h : w.ownsRow B e sz (.slice a n c) n cs) : n ≤ c ∧ c ≤ maxLen := by
  rcases h.2 with ⟨h', h0⟩ | ⟨g, cap, cur, h', hb, hg, hnc, hcm, hcs, htake⟩
  · simp only [Value.slice.injEq] at h'; exact ⟨by omega, by rw [h'.2.2]; exact Nat.zero_le _⟩
  · simp only [Value.slice.injEq, true_and] at h'
    obtain ⟨rfl, rfl⟩ := h'
    exact ⟨hnc, hcm⟩

/-- A further step that writes only what is newer than the first world. -/
theorem grown_new {a b c : World} {row row' : Option Nat} (h : a.grownBy b row) (k : b.grownBy c row') (hr : ∀ i, row' = some i → a.heap.size ≤ i) : a.grownBy c row :=
  ⟨k.os.trans h.os, k.tape.trans h.tape, k.output.trans h.output, Nat.le_trans h.size k.size, fun i hi hne =>
    (k.block i (Nat.lt_of_lt_of_le hi h.size) (fun e => by have := hr i e.symm; omega)).trans (h.block i hi hne)⟩

/-- Block b holds these cells. -/
def Blk (w : World) (b : Nat) (cs : Array Value) (t : TypeId) : Prop := w.heap[b]? = some (.cells cs t (0, 0))
theorem Blk.lt {w : World} {b : Nat} {cs : Array Value} {t : TypeId} (h : Blk w b cs t) : b < w.heap.size := (Array.getElem?_eq_some_iff.1 h).1
theorem Blk.below {w w' : World} {b : Nat} {cs : Array Value} {t : TypeId} (h : Blk w b cs t) (hb : Below w.heap.size w w') : Blk w' b cs t := (hb.block b h.lt).trans h
theorem Blk.cell {w : World} {b : Nat} {cs : Array Value} {t : TypeId} (h : Blk w b cs t) (j : Nat) {v : Value} (hv : cs[j]? = some v) : w.cell? ⟨b, j, none⟩ = some v := by
  unfold Blk at h; simp [World.cell?, h, hv]
theorem Blk.fz {w : World} {b : Nat} {cs : Array Value} {t : TypeId} (h : Blk w b cs t) (j : Nat) : w.frozen? ⟨b, j, none⟩ = false := by
  unfold Blk at h; simp [World.frozen?, h]
theorem Blk.set {w : World} {b : Nat} {cs : Array Value} {t : TypeId} (h : Blk w b cs t) (j : Nat) (v : Value) : Blk (w.setCell ⟨b, j, none⟩ v) b (cs.setIfInBounds j v) t := heap_setCell_same w b j cs t v h
theorem Blk.other {w : World} {b : Nat} {cs : Array Value} {t : TypeId} (h : Blk w b cs t) (a : Addr) (v : Value) (hne : b ≠ a.block) : Blk (w.setCell a v) b cs t := (Below.heap_setCell _ _ _ _ hne).trans h
theorem Blk.alloc {w : World} {b : Nat} {cs : Array Value} {t : TypeId} (h : Blk w b cs t) (o : Obj) : Blk (w.alloc o) b cs t := (heap_alloc_old w o h.lt).trans h
theorem Blk.new (w : World) (cs : Array Value) (t : TypeId) : Blk (w.alloc (.cells cs t)) w.heap.size cs t := heap_alloc_new w _
theorem Blk.grown {w w' : World} {b : Nat} {cs : Array Value} {t : TypeId} {row : Option Nat} (h : Blk w b cs t) (hg : w.grownBy w' row) (hne : row ≠ some b) : Blk w' b cs t := (hg.block b h.lt (fun e => hne e.symm)).trans h

theorem take_succ_int (zs : List Int) (k : Nat) (hk : k < zs.length) : zs.take (k + 1) = zs.take k ++ [zs.getD k 0] := by
  rw [List.take_add_one, List.getElem?_eq_getElem hk]; simp [List.getD, hk]

end Go.Proofs.Ytnobkdkfhgjeeab
