/- A region that draws its order and stores a program into a block that it makes itself. -/
import Derived.Test.YtnobkdkfhgjeeabBaseE
import Derived.Test.YtnobkdkfhgjeeabBaseA
namespace Go.Proofs.Ytnobkdkfhgjeeab
open Go.RowKit

/-- What lies below B stays, and all blocks that hold no program; a program's block stays one. -/
structure TP (B : Nat) (w w' : World) : Prop where
  bel : Below B w w'
  oth : ∀ (k : Nat) (cs : Array Value) (e : TypeId) (fr : Nat × Nat), w.heap[k]? = some (Obj.cells cs e fr) → e ≠ 26 → w'.heap[k]? = w.heap[k]?
  prg : ∀ (k : Nat) (c0 c1 c2 c3 c4 : Value), Blk w k #[c0, c1, c2, c3, c4] 26 → ∃ d0 d1 d2 d3 d4, Blk w' k #[d0, d1, d2, d3, d4] 26

theorem TP.trans {B : Nat} {a b c : World} (h : TP B a b) (k : TP B b c) : TP B a c :=
  ⟨h.bel.trans k.bel, fun i cs e fr hi he => by
    have h1 := h.oth i cs e fr hi he
    rw [k.oth i cs e fr (h1.trans hi) he, h1], fun i c0 c1 c2 c3 c4 hi => by
    obtain ⟨d0, d1, d2, d3, d4, h2⟩ := h.prg i _ _ _ _ _ hi
    exact k.prg i _ _ _ _ _ h2⟩

theorem TP.set {B g j : Nat} {w : World} {c0 c1 c2 c3 c4 x : Value} (h : Blk w g #[c0, c1, c2, c3, c4] 26) (hB : B ≤ g) (hj : j < 5) : TP B w (w.setCell ⟨g, j, none⟩ x) ∧ ∃ d0 d1 d2 d3 d4, Blk (w.setCell ⟨g, j, none⟩ x) g #[d0, d1, d2, d3, d4] 26 := by
  have hs := h.set j x
  have hd : ∃ d0 d1 d2 d3 d4, Blk (w.setCell ⟨g, j, none⟩ x) g #[d0, d1, d2, d3, d4] 26 := by
    match j, hj with
    | 0, _ => exact ⟨_, _, _, _, _, hs⟩
    | 1, _ => exact ⟨_, _, _, _, _, hs⟩
    | 2, _ => exact ⟨_, _, _, _, _, hs⟩
    | 3, _ => exact ⟨_, _, _, _, _, hs⟩
    | 4, _ => exact ⟨_, _, _, _, _, hs⟩
  refine ⟨TP.mk ((Below.refl _ _).setCell hB _) (fun k cs e fr hk he => ?_) (fun k e0 e1 e2 e3 e4 hk => ?_), hd⟩
  · refine Below.heap_setCell _ _ _ _ (fun e' => ?_)
    obtain rfl : k = g := e'
    unfold Blk at h
    rw [h] at hk
    simp only [Option.some.injEq, Obj.cells.injEq] at hk
    exact he hk.2.1.symm
  · by_cases e : k = g
    · subst e; exact hd
    · exact ⟨e0, e1, e2, e3, e4, hk.other ⟨g, j, none⟩ x e⟩

theorem owns_type {w : World} {B : Nat} {e : TypeId} {sz n c : Nat} {a : Option Addr} {cs : List Value} (h : w.ownsRow B e sz (.slice a n c) n cs) : ∀ k, rowOf a = some k → ∃ cur, w.heap[k]? = some (.cells cur e) := by
  intro k hk
  rcases h.2 with ⟨h', _⟩ | ⟨g', cap', cur, h', hb, hg, _⟩
  · simp only [Value.slice.injEq] at h'
    rw [h'.1] at hk; cases hk
  · simp only [Value.slice.injEq, true_and] at h'
    obtain ⟨rfl, rfl⟩ := h'
    obtain rfl : g' = k := by simpa [rowOf] using hk
    exact ⟨cur, hg⟩
theorem OwnP.types {w : World} {v : PV} {vs : List Value} {C : Cells} (h : OwnP w v vs C) : ∀ k ∈ fpP v vs, ∃ cs e, w.heap[k]? = some (.cells cs e) ∧ e ≠ 26 := by
  obtain ⟨t1, t2, t3, t4, t5, t6⟩ := types_ne
  intro k hk
  unfold fpP at hk
  simp only [List.mem_append, Option.mem_toList] at hk
  rcases hk with hk | hk | hk | hk | hk
  · obtain ⟨cur, hc⟩ := owns_type h.os k hk; exact ⟨cur, _, hc, t3.symm⟩
  · obtain ⟨cur, hc⟩ := owns_type h.og k hk; exact ⟨cur, _, hc, t3.symm⟩
  · obtain ⟨cur, hc⟩ := owns_type h.ob k hk; exact ⟨cur, _, hc, t3.symm⟩
  · obtain ⟨cur, hc⟩ := owns_type h.orr k hk; exact ⟨cur, _, hc, t3.symm⟩
  · unfold fpT at hk
    rcases List.mem_append.1 hk with hk | hk
    · obtain ⟨cur, hc⟩ := owns_type h.ot.out k (by simpa using hk); exact ⟨cur, _, hc, t4.symm⟩
    · obtain ⟨x, hx, hxk⟩ := List.mem_filterMap.1 hk
      obtain ⟨i, hi, e⟩ := List.mem_iff_getElem.1 hx
      obtain ⟨a', m, c', e', ho⟩ := h.ot.inn i (by rw [← h.ot.vlen]; exact hi)
      have : vs.getD i undef = x := by rw [List.getD_eq_getElem?_getD, List.getElem?_eq_getElem hi]; simp [e]
      rw [this] at e'
      rw [e', ownBlock_slice] at hxk
      obtain ⟨cur, hc⟩ := owns_type ho k hxk
      exact ⟨cur, _, hc, t5.symm⟩
theorem OwnP.tp {B : Nat} {w w' : World} {v : PV} {vs : List Value} {C : Cells} (h : OwnP w v vs C) (ht : TP B w w') : OwnP w' v vs C :=
  h.keep fun k hk _ => by
    obtain ⟨cs, e, h1, h2⟩ := h.types k hk
    exact ht.oth k cs e _ h1 h2
theorem OwnP.not_prog {w : World} {v : PV} {vs : List Value} {C : Cells} (h : OwnP w v vs C) {g : Nat} {cs : Array Value} (hb : Blk w g cs 26) : g ∉ fpP v vs := by
  intro hm
  obtain ⟨cs', e, h1, h2⟩ := h.types g hm
  unfold Blk at hb
  rw [hb] at h1
  simp only [Option.some.injEq, Obj.cells.injEq] at h1
  exact h2 h1.2.1.symm

/-- A program is stored into a block of the region's own. -/
theorem TP.store {B g : Nat} {w : World} {c0 c1 c2 c3 c4 a0 a1 a2 a3 a4 : Value} (h : Blk w g #[c0, c1, c2, c3, c4] 26) (hB : B ≤ g) :
    TP B w (((((w.setCell ⟨g, 0, none⟩ a0).setCell ⟨g, 1, none⟩ a1).setCell ⟨g, 2, none⟩ a2).setCell ⟨g, 3, none⟩ a3).setCell ⟨g, 4, none⟩ a4) ∧
    Blk (((((w.setCell ⟨g, 0, none⟩ a0).setCell ⟨g, 1, none⟩ a1).setCell ⟨g, 2, none⟩ a2).setCell ⟨g, 3, none⟩ a3).setCell ⟨g, 4, none⟩ a4) g #[a0, a1, a2, a3, a4] 26 := by
  have b0 := h.set 0 a0
  have b1 := b0.set 1 a1
  have b2 := b1.set 2 a2
  have b3 := b2.set 3 a3
  have b4 := b3.set 4 a4
  have s0 := (TP.set (j := 0) (x := a0) h hB (by decide)).1
  have s1 := (TP.set (B := B) (j := 1) (x := a1) (c0 := a0) (c1 := c1) (c2 := c2) (c3 := c3) (c4 := c4) b0 hB (by decide)).1
  have s2 := (TP.set (B := B) (j := 2) (x := a2) (c0 := a0) (c1 := a1) (c2 := c2) (c3 := c3) (c4 := c4) b1 hB (by decide)).1
  have s3 := (TP.set (B := B) (j := 3) (x := a3) (c0 := a0) (c1 := a1) (c2 := a2) (c3 := c3) (c4 := c4) b2 hB (by decide)).1
  have s4 := (TP.set (B := B) (j := 4) (x := a4) (c0 := a0) (c1 := a1) (c2 := a2) (c3 := a3) (c4 := c4) b3 hB (by decide)).1
  exact ⟨(((s0.trans s1).trans s2).trans s3).trans s4, b4⟩

end Go.Proofs.Ytnobkdkfhgjeeab
