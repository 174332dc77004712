/- Plain facts: an operation is dropped, and put. -/
import Derived.Test.YtnobkdkfhgjeeabCutPlain
import Derived.Test.YtnobkdkfhgjeeabDropKit
import Derived.Test.YtnobkdkfhgjeeabPut
namespace Go.Proofs.Ytnobkdkfhgjeeab
open Go.RowKit

theorem getD_set_self {α : Type} (d x : α) (l : List α) (i : Nat) (h : i < l.length) : (l.set i x).getD i d = x := by
  simp [List.getD, h]
theorem set_getD_self {α : Type} (d : α) : ∀ (l : List α) (i : Nat), l.set i (l.getD i d) = l
  | [], _ => by simp
  | x :: l, 0 => by simp
  | x :: l, i + 1 => by simp only [List.set_cons_succ, List.getD_cons_succ]; rw [set_getD_self d l i]
theorem mem_set_or {α : Type} {l : List α} {i : Nat} {x y : α} (h : y ∈ l.set i x) : y ∈ l ∨ y = x := by
  exact List.mem_or_eq_of_mem_set h
theorem getD_mem' {α : Type} (d : α) (l : List α) (i : Nat) (h : i < l.length) : l.getD i d ∈ l := by
  rw [List.getD_eq_getElem?_getD, List.getElem?_eq_getElem h]; simp
theorem insert_erase {α : Type} (d : α) : ∀ (l : List α) (j : Nat), j < l.length → (l.eraseIdx j).insertIdx j (l.getD j d) = l
  | [], j, h => by simp at h
  | x :: l, 0, _ => by simp
  | x :: l, j + 1, h => by
    simp only [List.eraseIdx_cons_succ, List.getD_cons_succ, List.insertIdx_succ_cons]
    rw [insert_erase d l j (by simpa using h)]
theorem erase_insert {α : Type} (x : α) : ∀ (l : List α) (j : Nat), j ≤ l.length → (l.insertIdx j x).eraseIdx j = l
  | l, 0, _ => by simp
  | [], j + 1, h => by simp at h
  | y :: l, j + 1, h => by
    simp only [List.insertIdx_succ_cons, List.eraseIdx_cons_succ]
    rw [erase_insert x l j (by simpa using h)]
theorem getD_insert {α : Type} (d x : α) : ∀ (l : List α) (j : Nat), j ≤ l.length → (l.insertIdx j x).getD j d = x
  | l, 0, _ => by simp
  | [], j + 1, h => by simp at h
  | y :: l, j + 1, h => by
    simp only [List.insertIdx_succ_cons, List.getD_cons_succ]
    exact getD_insert d x l j (by simpa using h)
theorem mem_insert {α : Type} {l : List α} {j : Nat} {x y : α} (h : y ∈ l.insertIdx j x) : y = x ∨ y ∈ l := by
  by_cases hj : j ≤ l.length
  · exact (List.mem_insertIdx hj).1 h
  · rw [List.insertIdx_of_length_lt (by omega)] at h
    exact .inr h
theorem set_set_self {α : Type} (l : List α) (i : Nat) (x y : α) : (l.set i x).set i y = l.set i y := by simp
theorem sizeSum_set : ∀ (ts : List (List OpD)) (i : Nat) (t : List OpD), i < ts.length → sizeSum (ts.set i t) + (ts.getD i []).length = sizeSum ts + t.length
  | [], i, t, h => by simp at h
  | u :: ts, 0, t, _ => by simp [sizeSum]; omega
  | u :: ts, i + 1, t, h => by
    have := sizeSum_set ts i t (by simpa using h)
    simp only [List.set_cons_succ, List.getD_cons_succ]
    unfold sizeSum at *
    simp only [List.map_cons, List.sum_cons]
    omega
theorem thr_thr (p : Pg) (a b : List (List OpD)) : (p.thr a).thr b = p.thr b := rfl
theorem thr_self (p : Pg) : p.thr p.threads = p := rfl

theorem dropOp_some {p q : Pg} {t a : Int} (h : dropOp p t a = some q) : progValid p = true ∧ progValid q = true ∧ ∃ i j : Nat, t = i ∧ a = j ∧ i < p.threads.length ∧ j < (p.threads.getD i []).length ∧ q = p.thr (p.threads.set i ((p.threads.getD i []).eraseIdx j)) := by
  obtain ⟨hv, ⟨i, rfl, hi⟩, hr⟩ := change_some h
  unfold dropRes at hr
  split at hr
  · next hc =>
    obtain ⟨j, rfl⟩ := Int.eq_ofNat_of_zero_le hc.1
    have hj : j < (p.threads.getD i []).length := by have := hc.2; simp only [Int.toNat_natCast] at this; omega
    have e : q = p.thr (p.threads.set i ((p.threads.getD i []).eraseIdx j)) := by simpa using (Option.some.inj hr).symm
    have hv' := valid_ops hv
    refine ⟨hv, ?_, i, j, rfl, rfl, hi, hj, e⟩
    rw [e]
    refine valid_thr_of hv (by simp; omega) (by simp; omega) (fun u hu => ?_)
    rcases mem_set_or hu with hu | rfl
    · exact hv'.2.2 u hu
    · have hm := hv'.2.2 _ (getD_mem' [] p.threads i hi)
      refine ⟨?_, fun o ho => hm.2 o (mem_erase ho)⟩
      have : ((p.threads.getD i []).eraseIdx j).length ≤ (p.threads.getD i []).length := by rw [List.length_eraseIdx]; split <;> omega
      omega
  · cases hr
theorem putOp_some {p q : Pg} {t x : Int} {o : OpD} (h : putOp p t x o = some q) : progValid p = true ∧ progValid q = true ∧ ∃ i j : Nat, t = i ∧ x = j ∧ i < p.threads.length ∧ j ≤ (p.threads.getD i []).length ∧ opValid p o = true ∧ (p.threads.getD i []).length < 8 ∧ q = p.thr (p.threads.set i ((p.threads.getD i []).insertIdx j o)) := by
  obtain ⟨hv, ⟨i, rfl, hi⟩, hr⟩ := change_some h
  unfold putRes at hr
  split at hr
  · next hc =>
    obtain ⟨h0, h1, h2, h3⟩ := hc
    obtain ⟨j, rfl⟩ := Int.eq_ofNat_of_zero_le h0
    simp only [Int.toNat_natCast] at h1 h3
    have hj : j ≤ (p.threads.getD i []).length := by omega
    have e : q = p.thr (p.threads.set i ((p.threads.getD i []).insertIdx j o)) := by simpa using (Option.some.inj hr).symm
    have hv' := valid_ops hv
    refine ⟨hv, ?_, i, j, rfl, rfl, hi, hj, h2, h3, e⟩
    rw [e]
    refine valid_thr_of hv (by simp; omega) (by simp; omega) (fun u hu => ?_)
    rcases mem_set_or hu with hu | rfl
    · exact hv'.2.2 u hu
    · have hm := hv'.2.2 _ (getD_mem' [] p.threads i hi)
      refine ⟨by rw [List.length_insertIdx, if_pos hj]; omega, fun o' ho => ?_⟩
      rcases mem_insert ho with rfl | ho
      · exact h2
      · exact hm.2 o' ho
  · cases hr
theorem put_back {p q : Pg} {i j : Nat} (hv : progValid p = true) (hq : progValid q = true) (hi : i < p.threads.length) (hj : j < (p.threads.getD i []).length) (e : q = p.thr (p.threads.set i ((p.threads.getD i []).eraseIdx j))) :
    putOp q (i : Int) (j : Int) ((p.threads.getD i []).getD j noOp) = some p := by
  have hl : q.threads.length = p.threads.length := by rw [e]; show (p.threads.set i _).length = _; simp
  have hr : q.threads.getD i [] = (p.threads.getD i []).eraseIdx j := by rw [e]; exact getD_set_self [] _ p.threads i hi
  have he : ((p.threads.getD i []).eraseIdx j).length + 1 = (p.threads.getD i []).length := by rw [List.length_eraseIdx, if_pos hj]; omega
  have h8 := ((valid_ops hv).2.2 _ (getD_mem' [] p.threads i hi))
  unfold putOp changeP
  rw [if_pos ⟨hq, by omega, by omega⟩]
  unfold putRes
  rw [Int.toNat_natCast, Int.toNat_natCast, hr, if_pos ⟨by omega, by omega, by rw [e]; exact h8.2 _ (getD_mem' noOp _ j hj), by omega⟩, insert_erase noOp _ j hj]
  congr 1
  rw [e, thr_thr]
  show p.thr ((p.threads.set i _).set i _) = p
  rw [set_set_self, set_getD_self, thr_self]
theorem drop_back {p q : Pg} {i j : Nat} {o : OpD} (hq : progValid q = true) (hi : i < p.threads.length) (hj : j ≤ (p.threads.getD i []).length) (e : q = p.thr (p.threads.set i ((p.threads.getD i []).insertIdx j o))) :
    dropOp q (i : Int) (j : Int) = some p ∧ (q.threads.getD i []).getD j noOp = o := by
  have hl : q.threads.length = p.threads.length := by rw [e]; show (p.threads.set i _).length = _; simp
  have hr : q.threads.getD i [] = (p.threads.getD i []).insertIdx j o := by rw [e]; exact getD_set_self [] _ p.threads i hi
  have he : ((p.threads.getD i []).insertIdx j o).length = (p.threads.getD i []).length + 1 := by rw [List.length_insertIdx, if_pos hj]
  refine ⟨?_, by rw [hr]; exact getD_insert noOp o _ j hj⟩
  unfold dropOp changeP
  rw [if_pos ⟨hq, by omega, by omega⟩]
  unfold dropRes
  rw [Int.toNat_natCast, Int.toNat_natCast, hr, if_pos ⟨by omega, by omega⟩, erase_insert o _ j hj]
  congr 1
  rw [e, thr_thr]
  show p.thr ((p.threads.set i _).set i _) = p
  rw [set_set_self, set_getD_self, thr_self]
theorem few_set {p : Pg} {k i : Nat} {t : List OpD} (h : Few p k) (ht : t.length ≤ 8) : Few (p.thr (p.threads.set i t)) k :=
  few_thr h (by have := h.t; simpa using this) (fun u hu => by
    rcases mem_set_or hu with hu | rfl
    · exact h.i u hu
    · exact ht)
theorem size_set {p q : Pg} {i : Nat} {t : List OpD} (hv : progValid p = true) (hq : progValid q = true) (hi : i < p.threads.length) (e : q = p.thr (p.threads.set i t)) : sizeP q + (p.threads.getD i []).length = sizeP p + t.length := by
  subst e
  unfold sizeP
  rw [if_pos hv, if_pos hq]
  exact sizeSum_set p.threads i t hi
end Go.Proofs.Ytnobkdkfhgjeeab
