/- Part of a proof: RowKit. -/
import Derived.Test.YtppoohbkkdgljaaVPTally
set_option maxRecDepth 100000
set_option maxHeartbeats 16000000
namespace Go.Proofs.Ytppoohbkkdgljaa
open Go.RowKit
theorem ziA (ts : List (List OpD)) (i j : Nat) (x : List OpD) (hi : i < ts.length) : (ts.set i x).getD j [] = if i = j then x else ts.getD j [] := by
 by_cases e : i = j
 ·subst e; rw [if_pos rfl, List.getD_eq_getElem?_getD, List.getElem?_set_self hi]; rfl
 ·rw [if_neg e, List.getD_eq_getElem?_getD, List.getElem?_set_ne e, ← List.getD_eq_getElem?_getD]
theorem OwnP.row {w : World} {u : PV} {us : List Value} {p : Pg} (hO : OwnP w u us p.cells) {i : Nat} (hi : i < u.nt) :
  ∃ a c, us.getD i undef = .slice a (p.threads.getD i []).length c ∧ w.ownsRow 0 44 3 (.slice a (p.threads.getD i []).length c) (p.threads.getD i []).length (opsV (p.threads.getD i [])) := by
 obtain ⟨a, m, c, e, ho⟩ := hO.inner_own (World.grownBy.refl _ _) i (by have := hO.ot.len; simp only [Pg.cells, List.length_map] at this; omega)
 have h := ho.1
 rw [zct] at h
 have hm : m = (p.threads.getD i []).length := by omega
 subst hm
 exact ⟨a, c, e, ho⟩
theorem zjJ {u : PV} {us : List Value} (hnd : (fpP u us).Nodup) : (fpV us).Nodup := by
 unfold fpP at hnd
 have h := ((zcv (zcv (zcv (zcv hnd).1).1).1).1)
 rw [zeV] at h
 exact (zcv h).1
theorem zhh {w w2 : World} {u : PV} {us : List Value} {p : Pg} (hO : OwnP w u us p.cells) {T na m c m' c' : Nat} {ax a' : Option Addr} (eT : u.t = some ⟨T, 0, none⟩) (hna : na < u.nt) (hx : us.getD na undef = .slice ax m c)
  (hT : w.grownBy w2 (zi ax)) (hoth : ∀ i, i < u.nt → na ≠ i → ∀ a m c xs, us.getD i undef = .slice a m c → w.ownsRow 0 44 3 (.slice a m c) m xs → w2.ownsRow 0 44 3 (.slice a m c) m xs) {new : List OpD} (hn : w2.ownsRow 0 44 3 (.slice a' m' c') m' (opsV new)) :
  OwnP (w2.setCell ⟨T, na, none⟩ (.slice a' m' c')) u (us.set na (.slice a' m' c')) (p.thr (p.threads.set na new)).cells := by
 obtain ⟨t1, t2, t3, t4, t5, t6⟩ := zai
 have hl : p.threads.length = u.nt := by have := hO.ot.len; simpa [Pg.cells] using this
 have hvl := hO.ot.vlen
 obtain ⟨a0, m0, c0, e0, ho0⟩ := hO.ot.inn na hna
 rw [hx] at e0
 obtain ⟨rfl, rfl, rfl⟩ : ax = a0 ∧ m = m0 ∧ c = c0 := by simpa using e0
 -- after the row's own change
 have q1 := ze hO.os hT (zl hO.os ho0 t6)
 have q2 := ze hO.og hT (zl hO.og ho0 t6)
 have q3 := ze hO.ob hT (zl hO.ob ho0 t6)
 have q4 := ze hO.orr hT (zl hO.orr ho0 t6)
 have q5 := ze hO.ot.out hT (zl hO.ot.out ho0 t2.symm)
 have g := zo w2 T na (.slice a' m' c')
 have q5' : w2.ownsRow 0 42 1 (.slice (some ⟨T, 0, none⟩) u.nt u.ct) u.nt us := by rw [← eT]; exact q5
 have R := zb9 q5' na (.slice a' m' c') rfl
 have far : ∀ {e : TypeId} {sz n cc B' : Nat} {aa : Option Addr} {xs : List Value}, w2.ownsRow B' e sz (.slice aa n cc) n xs → 42 ≠ e → ∀ k, zi aa = some k → (some T : Option Nat) = some k → False := fun ho hne k h1 h2 => zl q5' ho hne k h2 h1
 refine ⟨ze q1 g (far q1 t1.symm), ze q2 g (far q2 t1.symm), ze q3 g (far q3 t1.symm), ze q4 g (far q4 t1.symm), ⟨by rw [eT]; exact R.1, by simp [Pg.cells, Pg.thr, hl], fun i hi => ?_⟩⟩
 have er : (p.thr (p.threads.set na new)).cells.t.getD i [] = opsV ((p.threads.set na new).getD i []) := zgj (by show i < (p.threads.set na new).length; rw [List.length_set]; omega)
 rw [er, ziA _ _ _ _ (by omega)]
 by_cases e : na = i
 ·subst e
  rw [if_pos rfl]
  exact ⟨a', m', c', by simp [List.getD, hvl, hna], ze hn g (far hn t2.symm)⟩
 ·rw [if_neg e]
  obtain ⟨a2, m2, c2, e2, ho2⟩ := hO.ot.inn i hi
  have er2 : (p.cells).t.getD i [] = opsV (p.threads.getD i []) := zgj (by omega)
  rw [er2] at ho2
  refine ⟨a2, m2, c2, by simp only [List.getD, List.getElem?_set, if_neg e]; simpa [List.getD] using e2, ?_⟩
  have ho3 := hoth i hi e _ _ _ _ e2 ho2
  exact ze ho3 g (far ho3 t2.symm)
theorem zjQ {w w2 : World} {u : PV} {us : List Value} {p : Pg} (hO : OwnP w u us p.cells) (hnd2 : (fpV us).Nodup) {T na m c m' c' : Nat} {ax a' : Option Addr} (eT : u.t = some ⟨T, 0, none⟩) (hna : na < u.nt) (hx : us.getD na undef = .slice ax m c)
  (hT : w.grownBy w2 (zi ax)) {new : List OpD} (hn : w2.ownsRow 0 44 3 (.slice a' m' c') m' (opsV new)) :
  OwnP (w2.setCell ⟨T, na, none⟩ (.slice a' m' c')) u (us.set na (.slice a' m' c')) (p.thr (p.threads.set na new)).cells :=
 zhh hO eT hna hx hT (fun i hi e a m c xs e2 ho2 => ze ho2 hT (fun k h1 h2 => by
  have hvl := hO.ot.vlen
  refine e (zgG (k := k) hnd2 (by omega) (by omega) ?_ ?_ : na = i)
  ·rw [hx, zP]; exact h2
  ·rw [e2, zP]; exact h1)) hn
theorem zjb {w w2 : World} {u : PV} {us : List Value} {p : Pg} (hO : OwnP w u us p.cells) {T na m' c' : Nat} {a' : Option Addr} (eT : u.t = some ⟨T, 0, none⟩) (hna : na < u.nt)
  (hT : Below w.heap.size w w2) {new : List OpD} (hn : w2.ownsRow 0 44 3 (.slice a' m' c') m' (opsV new)) :
  OwnP (w2.setCell ⟨T, na, none⟩ (.slice a' m' c')) u (us.set na (.slice a' m' c')) (p.thr (p.threads.set na new)).cells := by
 obtain ⟨a, c, e, -⟩ := hO.row hna
 exact zhh hO eT hna e (zbz hT) (fun i hi e a m c xs e2 ho2 => zj ho2 hT) hn
theorem zkg {us : List Value} {k m c m' c' : Nat} {a : Option Addr} (h : us.getD k undef = .slice a m c) : fpV (us.set k (.slice a m' c')) = fpV us := by
 induction us generalizing k with
 | nil => rfl
 | cons x us ih =>
  cases k with
  | zero =>
   simp only [List.getD_cons_zero] at h
   subst h
   unfold fpV
   simp only [List.set_cons_zero, List.filterMap_cons, zP]
  | succ k =>
   simp only [List.getD_cons_succ] at h
   have := ih h
   unfold fpV at this ⊢
   simp only [List.set_cons_succ, List.filterMap_cons, this]
end Go.Proofs.Ytppoohbkkdgljaa
