/- slices.SortFunc at edges, by the closure of HoldEdges. -/
import Derived.Test.YtnobkdkfhgjeeabCompact
import Derived.Test.YtnobkdkfhgjeeabSortLay
import Derived.Sort.OwnSorted
namespace Go.Proofs.Ytnobkdkfhgjeeab
open Go.RowKit

theorem edges_att (d : Es) (j t : Nat) (hj : j < d.length) (ht : t < 2) : (edges d)[j * 2 + t]? = (edge (d.getD j (0, 0)))[t]? := by
  have h := edges_at d j hj
  match t, ht with
  | 0, _ => exact h.1
  | 1, _ => exact h.2
theorem flat_edges (l : Es) : (Sort.flatK edge 2 l.toArray).toList = edges l := by
  apply List.ext_getElem?
  intro t
  by_cases ht : t < l.length * 2
  · have h := Sort.get_flatK edge 2 l.toArray t (by simpa using ht)
    have hs : t < (Sort.flatK edge 2 l.toArray).size := by simpa using ht
    rw [getElem!_pos _ t hs] at h
    have hm : t % 2 < 2 := Nat.mod_lt _ (by decide)
    have e := edges_att l (t / 2) (t % 2) (by omega) hm
    rw [show t / 2 * 2 + t % 2 = t by omega] at e
    rw [e, Array.getElem?_toList, Array.getElem?_eq_getElem hs, h, List.getElem?_eq_getElem (by rw [edge_len]; exact hm), getElem!_pos (edge _) (t % 2) (by rw [edge_len]; exact hm)]
    have : l.toArray[t / 2]! = l.getD (t / 2) (0, 0) := by
      rw [getElem!_pos _ _ (by simp; omega)]
      simp [List.getD, show t / 2 < l.length by omega]
    simp only [this]
  · rw [List.getElem?_eq_none (by simp; omega), List.getElem?_eq_none (by rw [edges_len]; omega)]
theorem ltOf_edge (e f : Int × Int) : ltOf cmpE e f = ltE e f := by
  rw [Bool.eq_iff_iff, ltE_iff]
  unfold ltOf cmpE cmpI
  simp only [decide_eq_true_eq]
  split
  · split <;> (try split) <;> omega
  · split <;> (try split) <;> omega
theorem swoE : Sort.SWO (ltOf cmpE) := by
  constructor
  · intro x
    rw [ltOf_edge]
    exact Bool.eq_false_iff.2 (ltE_irr x)
  · intro x y z h1 h2
    rw [ltOf_edge] at *
    exact ltE_trans h1 h2
  · intro x y z h1 h2
    rw [ltOf_edge] at *
    rw [Bool.eq_false_iff, ne_eq, ltE_iff] at *
    omega
theorem cmpLaysE (blk off size : Nat) (w : World) : CmpLays Try.prog 74 #[] edge 2 cmpE blk off size w :=
  fun _ _ _ _ x y => (cmpEdge_any x y _).mono fun _ _ ⟨he, q, os, hw⟩ => ⟨he, q, os, hw⟩
theorem getArr (l : Es) (i : Nat) (hi : i < l.length) : l.toArray[i]! = l.getD i (0, 0) := by
  rw [getElem!_pos _ _ (by simpa using hi)]
  simp [List.getD, hi]

theorem ownE_sorted {w : World} {g n c q : Nat} {os : Array Obj} {l ts : Es} (h : w.ownsRow 0 61 2 (.slice (some ⟨g, 0, none⟩) n c) n (edges l)) (hl : ts.length = l.length) :
    (sortWorldK edge 2 w g 0 q ts.toArray os).ownsRow 0 61 2 (.slice (some ⟨g, 0, none⟩) n c) n (edges ts) ∧ w.grownBy (sortWorldK edge 2 w g 0 q ts.toArray os) (some g) := by
  obtain ⟨h0, ⟨h', _⟩ | ⟨g', cap', cur, h', hb, hg, h1, h2, h3, h4⟩⟩ := h
  · cases h'
  · cases h'
    have hgs : g < w.heap.size := (Array.getElem?_eq_some_iff.1 hg).1
    have hln : l.length = n := by rw [edges_len] at h0; omega
    have hnc : n * 2 ≤ c * 2 := Nat.mul_le_mul_right 2 h1
    have hh : (sortWorldK edge 2 w g 0 q ts.toArray os).heap[g]? = some (.cells (Sort.putCells id 0 (Sort.flatK edge 2 ts.toArray) cur) 61 (0, 0)) := by
      unfold sortWorldK Sort.putRowK
      rw [Sort.heap_grow_old _ _ (by simpa using hgs)]
      simp [Sort.putRow, Sort.mapBlock, Sort.ahead, Array.getElem?_modify, hg, Sort.onCells]
    refine ⟨⟨by rw [edges_len, hl, hln], .inr ⟨g, c, _, rfl, hb, hh, h1, h2, by simp [Sort.putCells, h3], ?_⟩⟩, ⟨rfl, rfl, rfl, by simp [sortWorldK, Sort.putRowK], fun k hk hne => ?_⟩⟩
    · apply List.ext_getElem?
      intro j
      by_cases hj : j < n * 2
      · rw [List.getElem?_take_of_lt hj, Array.getElem?_toList, ← flat_edges ts, Array.getElem?_toList]
        have hs : j < (Sort.flatK edge 2 ts.toArray).size := by simp; omega
        simp only [Sort.putCells, Array.getElem?_mapIdx, Nat.zero_add, Nat.sub_zero, id]
        rw [Array.getElem?_eq_getElem (by omega), Array.getElem?_eq_getElem hs]
        simp only [Option.map_some, Nat.zero_le, true_and, if_pos hs]
        rw [getElem!_pos _ j hs]
      · rw [List.getElem?_take_eq_none (by omega), List.getElem?_eq_none (by rw [edges_len]; omega)]
    · unfold sortWorldK Sort.putRowK
      rw [Sort.heap_grow_old _ _ (by simpa using hk)]
      have : g ≠ k := fun e => hne (by rw [e])
      simp [Sort.putRow, Sort.mapBlock, Sort.ahead, Array.getElem?_modify, this]

theorem sortEdges_any (a : Option Addr) (m c : Nat) (d : Es) (w : World) (ho : w.ownsRow 0 61 2 (.slice a m c) m (edges d)) (hm : m ≤ 1048576) :
    Calls Try.prog 73 #[.slice a m c, .func (.func 74) #[] #[]] w fun e w' => e = .returned (.tuple #[]) ∧ ∃ d' : Es, compTo d' d'.length = gather d ∧ d'.length = m ∧ w'.ownsRow 0 61 2 (.slice a m c) m (edges d') ∧ w.grownBy w' (rowOf a) := by
  have hlm : d.length = m := by have := ho.1; rw [edges_len] at this; omega
  by_cases h0 : m = 0
  · subst h0
    obtain rfl : d = [] := List.eq_nil_of_length_eq_zero hlm
    refine (AnyF.slices_SortFunc_none Try.sortE a c _ w).mono ?_
    rintro e w' ⟨rfl, rfl⟩
    exact ⟨rfl, [], rfl, rfl, ho, World.grownBy.refl _ _⟩
  · obtain ⟨g, rfl, -, hgs⟩ := owns_at ho (by omega)
    have hH : Sort.HoldsK edge 2 w g 0 d.toArray := fun j hj => by
      have hj' : j < d.length * 2 := by simpa using hj
      refine ⟨?_, ho.frozenAt _⟩
      have hs : j < (Sort.flatK edge 2 d.toArray).size := hj
      rw [Nat.zero_add, ho.cellAt _ (by omega), ← flat_edges d, Array.getElem?_toList, Array.getElem?_eq_getElem hs, getElem!_pos _ j hs]
      rfl
    have eg : ∀ args w, (callFunc 74 args).run Try.prog w = .ok (.enter 74 args) w := enters_of Try.func74 (by kernel_rfl) rfl
    have hcon := AnyQ.slices_SortFunc Try.sortE 2 Try.isAgg61 Try.sizeOf61 edge (fun _ => rfl) (fun x v hv => by simp [edge] at hv; rcases hv with rfl | rfl <;> rfl) cmpE swoE 74 #[] g 0 c d.toArray w eg (cmpLaysE g 0 d.toArray.size w) hH hgs (by simp; omega)
    rw [show d.toArray.size = m by simpa using hlm] at hcon
    refine hcon.mono ?_
    rintro e w' ⟨rfl, dA, q, os, hp, hs, rfl⟩
    obtain ⟨d', rfl⟩ : ∃ d' : Es, dA = d'.toArray := ⟨dA.toList, by simp⟩
    have hl : d'.length = d.length := by have := hp.1; simpa using this
    have hperm : d'.Perm d := by
      have := hp.2.2
      rw [show m = d.length from hlm.symm] at this
      simpa [hl, List.take_of_length_le, List.extract_eq_take_drop] using this
    have ho' := ownE_sorted (q := q) (os := os) ho hl
    refine ⟨rfl, d', comp_gather (fun x => hperm.mem_iff) (fun i j hij hj => ?_), by omega, ho'.1, ho'.2⟩
    have := hs i j (by omega) hij (by omega)
    rw [getArr d' i (by omega), getArr d' j hj, ltOf_edge] at this
    rw [this]; decide

end Go.Proofs.Ytnobkdkfhgjeeab
