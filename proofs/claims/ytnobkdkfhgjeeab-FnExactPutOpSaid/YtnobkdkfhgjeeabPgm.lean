/- Programs of threads as data: what a program in memory reads as; what it owns. No program in sight, but for the numbers of three types. -/
import Derived.Test.YtnobkdkfhgjeeabInts
namespace Go.Proofs.Ytnobkdkfhgjeeab
open Go.RowKit

/-- An operation, as data. -/
structure OpD where
  kind : Int
  on : Int
  arg : Int
/-- A program, as data. -/
structure Pg where
  sems : List Int
  groups : List Int
  barriers : List Int
  rooms : List Int
  threads : List (List OpD)

def opv (o : OpD) : List Value := [.int .i64 o.kind, .int .i64 o.on, .int .i64 o.arg]
theorem opv_len (o : OpD) : (opv o).length = 3 := rfl
abbrev opsV (l : List OpD) : List Value := l.flatMap opv
theorem opsV_len (l : List OpD) : (opsV l).length = l.length * 3 := flat_len opv_len l
theorem opsV_one (l : List OpD) : ∀ u ∈ opsV l, u.oneCell' = true := by
  intro u hu
  obtain ⟨e, _, h⟩ := List.mem_flatMap.1 hu
  simp only [opv, List.mem_cons, List.not_mem_nil, or_false] at h
  rcases h with rfl | rfl | rfl <;> rfl
def noOp : OpD := ⟨0, 0, 0⟩

theorem Rd.op {w : World} {a : Option Addr} {l : List OpD} (h : Rd w a (opsV l)) (hne : 0 < l.length) :
    ∃ b o, a = some ⟨b, o, none⟩ ∧ ∀ j, j < l.length → w.cell? ⟨b, o + j * 3, none⟩ = some (.int .i64 (l.getD j noOp).kind) ∧ w.cell? ⟨b, o + j * 3 + 1, none⟩ = some (.int .i64 (l.getD j noOp).on) ∧ w.cell? ⟨b, o + j * 3 + 2, none⟩ = some (.int .i64 (l.getD j noOp).arg) := by
  obtain ⟨b, o, e, hc⟩ := h.flat opv_len noOp hne (by decide)
  exact ⟨b, o, e, fun j hj => ⟨by simpa [opv] using hc j hj 0 (by decide), by simpa [opv] using hc j hj 1 (by decide), by simpa [opv] using hc j hj 2 (by decide)⟩⟩

/-- The five slices of a program's value. -/
structure PV where
  s : Option Addr
  ns : Nat
  cs : Nat
  g : Option Addr
  ng : Nat
  cg : Nat
  b : Option Addr
  nb : Nat
  cb : Nat
  r : Option Addr
  nr : Nat
  cr : Nat
  t : Option Addr
  nt : Nat
  ct : Nat

/-- A slice of slices: the outer cells are 'vs'; the i-th of them reads as 'CT i'. -/
structure RdT (w : World) (a : Option Addr) (ts : List (List OpD)) (vs : List Value) : Prop where
  len : vs.length = ts.length
  out : Rd w a vs
  inn : ∀ i, i < ts.length → ∃ a' c', vs.getD i undef = .slice a' (ts.getD i []).length c' ∧ Rd w a' (opsV (ts.getD i []))

theorem RdT.below {w w' : World} {a : Option Addr} {ts : List (List OpD)} {vs : List Value} (h : RdT w a ts vs) (hb : Below w.heap.size w w') : RdT w' a ts vs :=
  ⟨h.len, h.out.below hb, fun i hi => by obtain ⟨a', c', e, hr⟩ := h.inn i hi; exact ⟨a', c', e, hr.below hb⟩⟩

/-- Thread i, in memory. -/
theorem RdT.thread {w : World} {a : Option Addr} {ts : List (List OpD)} {vs : List Value} (h : RdT w a ts vs) (hne : 0 < ts.length) :
    ∃ b o, a = some ⟨b, o, none⟩ ∧ ∀ i, i < ts.length → ∃ a' c', w.cell? ⟨b, o + i, none⟩ = some (.slice a' (ts.getD i []).length c') ∧ Rd w a' (opsV (ts.getD i [])) := by
  obtain ⟨b, o, e, hc⟩ := h.out.at (by rw [h.len]; exact hne)
  refine ⟨b, o, e, fun i hi => ?_⟩
  obtain ⟨a', c', e', hr⟩ := h.inn i hi
  exact ⟨a', c', by rw [hc i (by rw [h.len]; exact hi), e'], hr⟩

/-- A program's value reads as p. -/
structure RdP (w : World) (v : PV) (p : Pg) : Prop where
  ls : p.sems.length = v.ns
  lg : p.groups.length = v.ng
  lb : p.barriers.length = v.nb
  lr : p.rooms.length = v.nr
  lt : p.threads.length = v.nt
  rs : Rd w v.s (ints p.sems)
  rg : Rd w v.g (ints p.groups)
  rb : Rd w v.b (ints p.barriers)
  rr : Rd w v.r (ints p.rooms)
  rt : ∃ vs, RdT w v.t p.threads vs

theorem RdP.below {w w' : World} {v : PV} {p : Pg} (h : RdP w v p) (hb : Below w.heap.size w w') : RdP w' v p :=
  ⟨h.ls, h.lg, h.lb, h.lr, h.lt, h.rs.below hb, h.rg.below hb, h.rb.below hb, h.rr.below hb, by obtain ⟨vs, hv⟩ := h.rt; exact ⟨vs, hv.below hb⟩⟩

/-- A slice of slices of operations that is owned: 'rows' of cells, one a thread. -/
structure OwnT (w : World) (a : Option Addr) (n c : Nat) (vs : List Value) (rows : List (List Value)) : Prop where
  out : w.ownsRow 0 34 1 (.slice a n c) n vs
  len : rows.length = n
  inn : ∀ i, i < n → ∃ a' m c', vs.getD i undef = .slice a' m c' ∧ w.ownsRow 0 44 3 (.slice a' m c') m (rows.getD i [])

/-- The blocks that it lies in. -/
def fpT (a : Option Addr) (vs : List Value) : List Nat := (rowOf a).toList ++ vs.filterMap Value.ownBlock

theorem OwnT.vlen {w : World} {a : Option Addr} {n c : Nat} {vs : List Value} {rows : List (List Value)} (h : OwnT w a n c vs rows) : vs.length = n := by
  have := h.out.1; omega
theorem mem_fpT_inn {a : Option Addr} {vs : List Value} {i k : Nat} (hi : i < vs.length) (hk : (vs.getD i undef).ownBlock = some k) : k ∈ fpT a vs := by
  unfold fpT
  refine List.mem_append.2 (.inr (List.mem_filterMap.2 ⟨vs.getD i undef, ?_, hk⟩))
  rw [List.getD_eq_getElem?_getD, List.getElem?_eq_getElem hi]; simp
theorem mem_fpT_out {a : Option Addr} {vs : List Value} {k : Nat} (hk : rowOf a = some k) : k ∈ fpT a vs := by
  unfold fpT; simp [hk]

theorem OwnT.keep {w w' : World} {a : Option Addr} {n c : Nat} {vs : List Value} {rows : List (List Value)} (h : OwnT w a n c vs rows) (hb : ∀ k ∈ fpT a vs, k < w.heap.size → w'.heap[k]? = w.heap[k]?) : OwnT w' a n c vs rows := by
  refine ⟨owns_keep h.out fun k hk hl => hb k (mem_fpT_out (by rwa [ownBlock_slice] at hk)) hl, h.len, fun i hi => ?_⟩
  obtain ⟨a', m, c', e, ho⟩ := h.inn i hi
  exact ⟨a', m, c', e, owns_keep ho fun k hk hl => hb k (mem_fpT_inn (by rw [h.vlen]; exact hi) (by rw [e]; exact hk)) hl⟩

theorem OwnT.lt {w : World} {a : Option Addr} {n c : Nat} {vs : List Value} {rows : List (List Value)} (h : OwnT w a n c vs rows) : ∀ k ∈ fpT a vs, k < w.heap.size := by
  intro k hk
  unfold fpT at hk
  rcases List.mem_append.1 hk with hk | hk
  · have : rowOf a = some k := by simpa using hk
    exact (owns_row h.out k this).2
  · obtain ⟨v, hv, hvk⟩ := List.mem_filterMap.1 hk
    obtain ⟨i, hi, e⟩ := List.mem_iff_getElem.1 hv
    obtain ⟨a', m, c', e', ho⟩ := h.inn i (by rw [← h.vlen]; exact hi)
    have : vs.getD i undef = v := by rw [List.getD_eq_getElem?_getD, List.getElem?_eq_getElem hi]; simp [e]
    rw [this] at e'
    rw [e'] at hvk
    exact (ho.lt k hvk).2

/-- The cells of a program. -/
structure Cells where
  s : List Value
  g : List Value
  b : List Value
  r : List Value
  t : List (List Value)

def Pg.cells (p : Pg) : Cells := ⟨ints p.sems, ints p.groups, ints p.barriers, ints p.rooms, p.threads.map opsV⟩

/-- A program's value owns its cells; 'vs' are its threads' slices. -/
structure OwnP (w : World) (v : PV) (vs : List Value) (C : Cells) : Prop where
  os : w.ownsRow 0 3 1 (.slice v.s v.ns v.cs) v.ns C.s
  og : w.ownsRow 0 3 1 (.slice v.g v.ng v.cg) v.ng C.g
  ob : w.ownsRow 0 3 1 (.slice v.b v.nb v.cb) v.nb C.b
  orr : w.ownsRow 0 3 1 (.slice v.r v.nr v.cr) v.nr C.r
  ot : OwnT w v.t v.nt v.ct vs C.t

def fpP (v : PV) (vs : List Value) : List Nat := (rowOf v.s).toList ++ ((rowOf v.g).toList ++ ((rowOf v.b).toList ++ ((rowOf v.r).toList ++ fpT v.t vs)))

theorem OwnP.keep {w w' : World} {v : PV} {vs : List Value} {C : Cells} (h : OwnP w v vs C) (hb : ∀ k ∈ fpP v vs, k < w.heap.size → w'.heap[k]? = w.heap[k]?) : OwnP w' v vs C := by
  refine ⟨owns_keep h.os fun k hk hl => hb k ?_ hl, owns_keep h.og fun k hk hl => hb k ?_ hl, owns_keep h.ob fun k hk hl => hb k ?_ hl, owns_keep h.orr fun k hk hl => hb k ?_ hl, h.ot.keep fun k hk hl => hb k ?_ hl⟩
  all_goals first
    | (rw [ownBlock_slice] at hk; unfold fpP; simp [hk]; done)
    | (unfold fpP; simp [hk]; done)

theorem OwnP.lt {w : World} {v : PV} {vs : List Value} {C : Cells} (h : OwnP w v vs C) : ∀ k ∈ fpP v vs, k < w.heap.size := by
  intro k hk
  unfold fpP at hk
  simp only [List.mem_append, Option.mem_toList] at hk
  rcases hk with hk | hk | hk | hk | hk
  · exact (owns_row h.os k hk).2
  · exact (owns_row h.og k hk).2
  · exact (owns_row h.ob k hk).2
  · exact (owns_row h.orr k hk).2
  · exact h.ot.lt k hk

theorem OwnP.below {w w' : World} {v : PV} {vs : List Value} {C : Cells} (h : OwnP w v vs C) (hb : Below w.heap.size w w') : OwnP w' v vs C :=
  h.keep fun k hk _ => hb.block k (h.lt k hk)

theorem OwnT.rd {w : World} {a : Option Addr} {n c : Nat} {vs : List Value} {ts : List (List OpD)} (h : OwnT w a n c vs (ts.map opsV)) : RdT w a ts vs := by
  have hl : ts.length = n := by simpa using h.len
  refine ⟨by rw [h.vlen, hl], Rd.of_owns h.out, fun i hi => ?_⟩
  obtain ⟨a', m, c', e, ho⟩ := h.inn i (by omega)
  have er : (ts.map opsV).getD i [] = opsV (ts.getD i []) := by simp [List.getD, hi]
  rw [er] at ho
  have hm : m = (ts.getD i []).length := by
    have := ho.1
    rw [opsV_len] at this; omega
  subst hm
  exact ⟨a', c', e, Rd.of_owns ho⟩

/-- What is owned reads. -/
theorem OwnP.rd {w : World} {v : PV} {vs : List Value} {p : Pg} (h : OwnP w v vs p.cells) : RdP w v p :=
  ⟨by have := h.os.1; simpa [Pg.cells] using this, by have := h.og.1; simpa [Pg.cells] using this, by have := h.ob.1; simpa [Pg.cells] using this, by have := h.orr.1; simpa [Pg.cells] using this,
   by have := h.ot.len; simpa [Pg.cells] using this, Rd.of_owns h.os, Rd.of_owns h.og, Rd.of_owns h.ob, Rd.of_owns h.orr, ⟨vs, OwnT.rd h.ot⟩⟩

/-- w' is w with new blocks, and with writes to the blocks of S alone. -/
structure Touch (S : List Nat) (w w' : World) : Prop where
  os : w'.os = w.os
  tape : w'.tape = w.tape
  output : w'.output = w.output
  size : w.heap.size ≤ w'.heap.size
  block : ∀ k, k < w.heap.size → k ∉ S → w'.heap[k]? = w.heap[k]?

theorem Touch.refl (S : List Nat) (w : World) : Touch S w w := ⟨rfl, rfl, rfl, Nat.le_refl _, fun _ _ _ => rfl⟩
theorem Touch.trans {S : List Nat} {a b c : World} (h : Touch S a b) (k : Touch S b c) : Touch S a c :=
  ⟨k.os.trans h.os, k.tape.trans h.tape, k.output.trans h.output, Nat.le_trans h.size k.size, fun i hi hn => (k.block i (Nat.lt_of_lt_of_le hi h.size) hn).trans (h.block i hi hn)⟩
theorem Touch.of_grown {S : List Nat} {w w' : World} {row : Option Nat} (h : w.grownBy w' row) (hr : ∀ k, row = some k → k ∈ S) : Touch S w w' :=
  ⟨h.os, h.tape, h.output, h.size, fun k hk hn => h.block k hk (fun e => hn (hr k e.symm))⟩
theorem Touch.mono {S S' : List Nat} {w w' : World} (h : Touch S w w') (hs : ∀ k ∈ S, k ∈ S') : Touch S' w w' :=
  ⟨h.os, h.tape, h.output, h.size, fun k hk hn => h.block k hk (fun e => hn (hs k e))⟩
theorem Touch.below {S : List Nat} {w w' : World} {B : Nat} (h : Touch S w w') (hB : B ≤ w.heap.size) (hS : ∀ k ∈ S, B ≤ k) : Below B w w' :=
  ⟨h.os, h.tape, h.output, h.size, fun k hk => h.block k (by omega) (fun e => by have := hS k e; omega)⟩
theorem Touch.of_below {S : List Nat} {w w' : World} (h : Below w.heap.size w w') : Touch S w w' :=
  ⟨h.os, h.tape, h.output, h.size, fun k hk _ => h.block k hk⟩

theorem OwnP.touch {S : List Nat} {w w' : World} {v : PV} {vs : List Value} {C : Cells} (h : OwnP w v vs C) (ht : Touch S w w') (hd : ∀ k ∈ fpP v vs, k ∉ S) : OwnP w' v vs C :=
  h.keep fun k hk hl => ht.block k hl (hd k hk)
theorem OwnT.touch {S : List Nat} {w w' : World} {a : Option Addr} {n c : Nat} {vs : List Value} {rows : List (List Value)} (h : OwnT w a n c vs rows) (ht : Touch S w w') (hd : ∀ k ∈ fpT a vs, k ∉ S) : OwnT w' a n c vs rows :=
  h.keep fun k hk hl => ht.block k hl (hd k hk)
theorem owns_touch {S : List Nat} {w w' : World} {B : Nat} {e : TypeId} {sz n c : Nat} {a : Option Addr} {cs : List Value} (h : w.ownsRow B e sz (.slice a n c) n cs) (ht : Touch S w w') (hd : ∀ k, rowOf a = some k → k ∉ S) : w'.ownsRow B e sz (.slice a n c) n cs :=
  owns_keep h fun k hk hl => ht.block k hl (hd k (by rwa [ownBlock_slice] at hk))

end Go.Proofs.Ytnobkdkfhgjeeab
