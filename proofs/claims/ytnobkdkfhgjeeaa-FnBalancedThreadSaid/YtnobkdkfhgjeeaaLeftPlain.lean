/- Plain facts: programs of some of the threads. -/
import Derived.Test.YtnobkdkfhgjeeaaCutPlain
import Derived.Test.YtnobkdkfhgjeeaaBaseE
namespace Go.Proofs.Ytnobkdkfhgjeeaa
open Go.RowKit

theorem valid_take {p : Pg} (h : progValid p = true) : progValid (p.thr (p.threads.take 1)) = true := by
  have hv := valid_ops h
  exact valid_thr_of h (by rw [List.length_take]; omega) (by rw [List.length_take]; omega) (fun t ht => hv.2.2 t (List.mem_of_mem_take ht))
theorem valid_drop {p : Pg} (h : progValid p = true) (h2 : 2 ≤ p.threads.length) : progValid (p.thr (p.threads.drop 1)) = true := by
  have hv := valid_ops h
  exact valid_thr_of h (by rw [List.length_drop]; omega) (by rw [List.length_drop]; omega) (fun t ht => hv.2.2 t (List.mem_of_mem_drop ht))
theorem left_sum {p : Pg} (h : progValid p = true) (h2 : 2 ≤ p.threads.length) (i : Nat) (hi : i < p.groups.length) :
    (groupsLeft (p.thr (p.threads.take 1))).getD i 0 + (groupsLeft (p.thr (p.threads.drop 1))).getD i 0 - p.groups.getD i 0 = (groupsLeft p).getD i 0 := by
  unfold groupsLeft
  rw [if_pos (valid_take h), if_pos (valid_drop h h2), if_pos h]
  show (tallyOf p.groups ofGroupsLeft (p.threads.take 1)).getD i 0 + (tallyOf p.groups ofGroupsLeft (p.threads.drop 1)).getD i 0 - _ = _
  rw [tallyOf_get _ _ _ _ hi, tallyOf_get _ _ _ _ hi, tallyOf_get _ _ _ _ hi]
  have e : p.threads = p.threads.take 1 ++ p.threads.drop 1 := (List.take_append_drop 1 p.threads).symm
  have e2 : sumsAt ofGroupsLeft i p.threads = sumsAt ofGroupsLeft i (p.threads.take 1) + sumsAt ofGroupsLeft i (p.threads.drop 1) := by rw [← sumsAt_append, ← e]
  rw [e2]; omega
theorem left_len {p : Pg} (h : progValid p = true) (h2 : 2 ≤ p.threads.length) : (groupsLeft p).length = p.groups.length ∧ (groupsLeft (p.thr (p.threads.take 1))).length = p.groups.length ∧ (groupsLeft (p.thr (p.threads.drop 1))).length = p.groups.length := by
  unfold groupsLeft
  rw [if_pos (valid_take h), if_pos (valid_drop h h2), if_pos h]
  refine ⟨tallyOf_len _ _ _, tallyOf_len _ _ _, tallyOf_len _ _ _⟩
theorem left_bound {p : Pg} (h : progValid p = true) (i : Nat) : -1000 ≤ (groupsLeft p).getD i 0 ∧ (groupsLeft p).getD i 0 ≤ 1000 := by
  unfold groupsLeft
  rw [if_pos h]
  by_cases hi : i < p.groups.length
  · rw [tallyOf_get _ _ _ _ hi]
    have hg := groups_small h i
    have hv := valid_ops h
    have := sumsAt_le ofGroupsLeft i p.threads 4 hv.2.1 (fun t ht => ⟨(hv.2.2 t ht).1, fun o ho => by
      unfold ofGroupsLeft
      split
      · next hk => exact valid_add ((hv.2.2 t ht).2 o ho) hk
      · omega⟩)
    omega
  · rw [List.getD_eq_getElem?_getD, List.getElem?_eq_none (by rw [tallyOf_len]; omega)]; simp
theorem left_none {p : Pg} (h : progValid p = false) : groupsLeft p = [] := by unfold groupsLeft; rw [if_neg (by rw [h]; decide)]

theorem RdT.take {w : World} {a : Option Addr} {ts : List (List OpD)} {vs : List Value} (h : RdT w a ts vs) (k : Nat) : RdT w a (ts.take k) (vs.take k) := by
  refine ⟨by simp [h.len], ?_, fun i hi => ?_⟩
  · rcases h.out with h0 | ⟨b, o, rfl, hc⟩
    · exact .inl (by rw [h0]; simp)
    · refine .inr ⟨b, o, rfl, fun j hj => ?_⟩
      simp only [List.length_take] at hj
      rw [hc j (by omega)]
      simp [List.getD, show j < k by omega]
  · simp only [List.length_take] at hi
    obtain ⟨a', c', e, hr⟩ := h.inn i (by omega)
    have e1 : (vs.take k).getD i undef = vs.getD i undef := by simp [List.getD, show i < k by omega]
    have e2 : (ts.take k).getD i [] = ts.getD i [] := by simp [List.getD, show i < k by omega]
    exact ⟨a', c', by rw [e1, e2, e], by rw [e2]; exact hr⟩
theorem RdT.drop {w : World} {b o : Nat} {ts : List (List OpD)} {vs : List Value} (h : RdT w (some ⟨b, o, none⟩) ts vs) (k : Nat) : RdT w (some ⟨b, o + k, none⟩) (ts.drop k) (vs.drop k) := by
  refine ⟨by simp [h.len], ?_, fun i hi => ?_⟩
  · rcases h.out with h0 | ⟨b', o', e, hc⟩
    · exact .inl (by rw [h0]; simp)
    · cases e
      refine .inr ⟨b, o + k, rfl, fun j hj => ?_⟩
      simp only [List.length_drop] at hj
      rw [show o + k + j = o + (k + j) by omega, hc (k + j) (by omega)]
      simp [List.getD]
  · simp only [List.length_drop] at hi
    obtain ⟨a', c', e, hr⟩ := h.inn (k + i) (by omega)
    have e1 : (vs.drop k).getD i undef = vs.getD (k + i) undef := by simp [List.getD]
    have e2 : (ts.drop k).getD i [] = ts.getD (k + i) [] := by simp [List.getD]
    exact ⟨a', c', by rw [e1, e2, e], by rw [e2]; exact hr⟩
theorem getD_mem0 {α : Type} (d : α) (l : List α) (i : Nat) (h : i < l.length) : l.getD i d ∈ l := by
  rw [List.getD_eq_getElem?_getD, List.getElem?_eq_getElem h]; simp
theorem RdP.sub {w : World} {v : PV} {p : Pg} (h : RdP w v p) {a : Option Addr} {n c : Nat} {ts : List (List OpD)} (hl : ts.length = n) (hT : ∃ vs, RdT w a ts vs) : RdP w (v.thr a n c) (p.thr ts) :=
  ⟨h.ls, h.lg, h.lb, h.lr, hl, h.rs, h.rg, h.rb, h.rr, hT⟩
theorem Small.sub {v : PV} {p : Pg} (h : Small v p) {a : Option Addr} {n c : Nat} {ts : List (List OpD)} (hn : n ≤ 1048576) (hi : ∀ i, (ts.getD i []).length ≤ 1048576) : Small (v.thr a n c) (p.thr ts) := ⟨h.ls, h.lg, h.lb, h.lr, hn, hi⟩
end Go.Proofs.Ytnobkdkfhgjeeaa
