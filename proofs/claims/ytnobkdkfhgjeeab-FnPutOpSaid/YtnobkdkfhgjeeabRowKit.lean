/- One thread of a program's copy is given another row. -/
import Derived.Test.YtnobkdkfhgjeeabCutFit
namespace Go.Proofs.Ytnobkdkfhgjeeab
open Go.RowKit

theorem getD_set_op (ts : List (List OpD)) (i j : Nat) (x : List OpD) (hi : i < ts.length) : (ts.set i x).getD j [] = if i = j then x else ts.getD j [] := by
  by_cases e : i = j
  · subst e; rw [if_pos rfl, List.getD_eq_getElem?_getD, List.getElem?_set_self hi]; rfl
  · rw [if_neg e, List.getD_eq_getElem?_getD, List.getElem?_set_ne e, ← List.getD_eq_getElem?_getD]

/-- Thread i of a copy, owned. -/
theorem OwnP.row {w : World} {u : PV} {us : List Value} {p : Pg} (hO : OwnP w u us p.cells) {i : Nat} (hi : i < u.nt) :
    ∃ a c, us.getD i undef = .slice a (p.threads.getD i []).length c ∧ w.ownsRow 0 44 3 (.slice a (p.threads.getD i []).length c) (p.threads.getD i []).length (opsV (p.threads.getD i [])) := by
  obtain ⟨a, m, c, e, ho⟩ := hO.inner_own (World.grownBy.refl _ _) i (by have := hO.ot.len; simp only [Pg.cells, List.length_map] at this; omega)
  have h := ho.1
  rw [opsV_len] at h
  have hm : m = (p.threads.getD i []).length := by omega
  subst hm
  exact ⟨a, c, e, ho⟩

theorem fpP_rows {u : PV} {us : List Value} (hnd : (fpP u us).Nodup) : (fpV us).Nodup := by
  unfold fpP at hnd
  have h := ((nodup_opt_inv (nodup_opt_inv (nodup_opt_inv (nodup_opt_inv hnd).1).1).1).1)
  rw [fpT_eq] at h
  exact (nodup_opt_inv h).1

theorem ownP_row' {w w2 : World} {u : PV} {us : List Value} {p : Pg} (hO : OwnP w u us p.cells) {T na m c m' c' : Nat} {ax a' : Option Addr} (eT : u.t = some ⟨T, 0, none⟩) (hna : na < u.nt) (hx : us.getD na undef = .slice ax m c)
    (hT : w.grownBy w2 (rowOf ax)) (hoth : ∀ i, i < u.nt → na ≠ i → ∀ a m c xs, us.getD i undef = .slice a m c → w.ownsRow 0 44 3 (.slice a m c) m xs → w2.ownsRow 0 44 3 (.slice a m c) m xs) {new : List OpD} (hn : w2.ownsRow 0 44 3 (.slice a' m' c') m' (opsV new)) :
    OwnP (w2.setCell ⟨T, na, none⟩ (.slice a' m' c')) u (us.set na (.slice a' m' c')) (p.thr (p.threads.set na new)).cells := by
  obtain ⟨t1, t2, t3, t4, t5, t6⟩ := types_ne
  have hl : p.threads.length = u.nt := by have := hO.ot.len; simpa [Pg.cells] using this
  have hvl := hO.ot.vlen
  obtain ⟨a0, m0, c0, e0, ho0⟩ := hO.ot.inn na hna
  rw [hx] at e0
  obtain ⟨rfl, rfl, rfl⟩ : ax = a0 ∧ m = m0 ∧ c = c0 := by simpa using e0
  -- after the row's own change
  have q1 := owns_grown hO.os hT (owns_owns hO.os ho0 t6)
  have q2 := owns_grown hO.og hT (owns_owns hO.og ho0 t6)
  have q3 := owns_grown hO.ob hT (owns_owns hO.ob ho0 t6)
  have q4 := owns_grown hO.orr hT (owns_owns hO.orr ho0 t6)
  have q5 := owns_grown hO.ot.out hT (owns_owns hO.ot.out ho0 t2.symm)
  have g := grown_set w2 T na (.slice a' m' c')
  have q5' : w2.ownsRow 0 34 1 (.slice (some ⟨T, 0, none⟩) u.nt u.ct) u.nt us := by rw [← eT]; exact q5
  have R := owns_store q5' na (.slice a' m' c') rfl
  have far : ∀ {e : TypeId} {sz n cc B' : Nat} {aa : Option Addr} {xs : List Value}, w2.ownsRow B' e sz (.slice aa n cc) n xs → 34 ≠ e → ∀ k, rowOf aa = some k → (some T : Option Nat) = some k → False := fun ho hne k h1 h2 => owns_owns q5' ho hne k h2 h1
  refine ⟨owns_grown q1 g (far q1 t1.symm), owns_grown q2 g (far q2 t1.symm), owns_grown q3 g (far q3 t1.symm), owns_grown q4 g (far q4 t1.symm), ⟨by rw [eT]; exact R.1, by simp [Pg.cells, Pg.thr, hl], fun i hi => ?_⟩⟩
  have er : (p.thr (p.threads.set na new)).cells.t.getD i [] = opsV ((p.threads.set na new).getD i []) := getD_len (by show i < (p.threads.set na new).length; rw [List.length_set]; omega)
  rw [er, getD_set_op _ _ _ _ (by omega)]
  by_cases e : na = i
  · subst e
    rw [if_pos rfl]
    exact ⟨a', m', c', by simp [List.getD, hvl, hna], owns_grown hn g (far hn t2.symm)⟩
  · rw [if_neg e]
    obtain ⟨a2, m2, c2, e2, ho2⟩ := hO.ot.inn i hi
    have er2 : (p.cells).t.getD i [] = opsV (p.threads.getD i []) := getD_len (by omega)
    rw [er2] at ho2
    refine ⟨a2, m2, c2, by simp only [List.getD, List.getElem?_set, if_neg e]; simpa [List.getD] using e2, ?_⟩
    have ho3 := hoth i hi e _ _ _ _ e2 ho2
    exact owns_grown ho3 g (far ho3 t2.symm)

theorem ownP_row {w w2 : World} {u : PV} {us : List Value} {p : Pg} (hO : OwnP w u us p.cells) (hnd2 : (fpV us).Nodup) {T na m c m' c' : Nat} {ax a' : Option Addr} (eT : u.t = some ⟨T, 0, none⟩) (hna : na < u.nt) (hx : us.getD na undef = .slice ax m c)
    (hT : w.grownBy w2 (rowOf ax)) {new : List OpD} (hn : w2.ownsRow 0 44 3 (.slice a' m' c') m' (opsV new)) :
    OwnP (w2.setCell ⟨T, na, none⟩ (.slice a' m' c')) u (us.set na (.slice a' m' c')) (p.thr (p.threads.set na new)).cells :=
  ownP_row' hO eT hna hx hT (fun i hi e a m c xs e2 ho2 => owns_grown ho2 hT (fun k h1 h2 => by
    have hvl := hO.ot.vlen
    refine e (same_block (k := k) hnd2 (by omega) (by omega) ?_ ?_ : na = i)
    · rw [hx, ownBlock_slice]; exact h2
    · rw [e2, ownBlock_slice]; exact h1)) hn
theorem ownP_row0 {w w2 : World} {u : PV} {us : List Value} {p : Pg} (hO : OwnP w u us p.cells) {T na m' c' : Nat} {a' : Option Addr} (eT : u.t = some ⟨T, 0, none⟩) (hna : na < u.nt)
    (hT : Below w.heap.size w w2) {new : List OpD} (hn : w2.ownsRow 0 44 3 (.slice a' m' c') m' (opsV new)) :
    OwnP (w2.setCell ⟨T, na, none⟩ (.slice a' m' c')) u (us.set na (.slice a' m' c')) (p.thr (p.threads.set na new)).cells := by
  obtain ⟨a, c, e, -⟩ := hO.row hna
  exact ownP_row' hO eT hna e (grown_below hT) (fun i hi e a m c xs e2 ho2 => owns_below ho2 hT) hn

theorem fpV_set {us : List Value} {k m c m' c' : Nat} {a : Option Addr} (h : us.getD k undef = .slice a m c) : fpV (us.set k (.slice a m' c')) = fpV us := by
  induction us generalizing k with
  | nil => rfl
  | cons x us ih =>
    cases k with
    | zero =>
      simp only [List.getD_cons_zero] at h
      subst h
      unfold fpV
      simp only [List.set_cons_zero, List.filterMap_cons, ownBlock_slice]
    | succ k =>
      simp only [List.getD_cons_succ] at h
      have := ih h
      unfold fpV at this ⊢
      simp only [List.set_cons_succ, List.filterMap_cons, this]
theorem fpP_set {u : PV} {us : List Value} {k m c m' c' : Nat} {a : Option Addr} (h : us.getD k undef = .slice a m c) : fpP u (us.set k (.slice a m' c')) = fpP u us := by
  unfold fpP
  rw [fpT_eq, fpT_eq, fpV_set h]

end Go.Proofs.Ytnobkdkfhgjeeab
