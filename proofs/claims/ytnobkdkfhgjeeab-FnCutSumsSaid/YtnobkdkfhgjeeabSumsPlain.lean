/- Plain facts: what a cut thread adds to the arrivals. -/
import Derived.Test.YtnobkdkfhgjeeabCutPlain
import Derived.Test.YtnobkdkfhgjeeabBaseE
import Derived.Test.YtnobkdkfhgjeeabBaseB
namespace Go.Proofs.Ytnobkdkfhgjeeab
open Go.RowKit

theorem getD_mem_of {α : Type} (d : α) (l : List α) (i : Nat) (h : i < l.length) : l.getD i d ∈ l := by
  rw [List.getD_eq_getElem?_getD, List.getElem?_eq_getElem h]; simp
theorem arr_of (o : OpD) : 0 ≤ ofArrivalsOf o ∧ ofArrivalsOf o ≤ 1 := by unfold ofArrivalsOf; split <;> omega
theorem arr_at (i : Nat) (l : List OpD) : 0 ≤ sumAt ofArrivalsOf i l ∧ sumAt ofArrivalsOf i l ≤ l.length := by
  induction l with
  | nil => simp [sumAt]
  | cons o os ih =>
    have := arr_of o
    simp only [sumAt, List.length_cons]
    split <;> omega
theorem arr_sums (i : Nat) (ts : List (List OpD)) (h : ∀ t ∈ ts, t.length ≤ 8) : 0 ≤ sumsAt ofArrivalsOf i ts ∧ sumsAt ofArrivalsOf i ts ≤ 8 * ts.length := by
  induction ts with
  | nil => simp [sumsAt]
  | cons t ts ih =>
    have h1 := arr_at i t
    have h2 := h t (by simp)
    have h3 := ih (fun u hu => h u (by simp [hu]))
    simp only [sumsAt, List.length_cons]
    omega
theorem sumsAt_erase (of : OpD → Int) (i : Nat) : ∀ (ts : List (List OpD)) (k : Nat), k < ts.length → sumsAt of i (ts.eraseIdx k) + sumAt of i (ts.getD k []) = sumsAt of i ts
  | [], k, h => by simp at h
  | t :: ts, 0, _ => by simp [sumsAt]; omega
  | t :: ts, k + 1, h => by
    have := sumsAt_erase of i ts k (by simpa using h)
    simp only [List.eraseIdx_cons_succ, List.getD_cons_succ, sumsAt]
    omega
theorem arr_len {p : Pg} (h : progValid p = true) : (arrivalsOf p).length = p.barriers.length := by
  unfold arrivalsOf
  rw [if_pos h, tallyOf_len]; simp
theorem arr_get {p : Pg} (h : progValid p = true) (i : Nat) (hi : i < p.barriers.length) : (arrivalsOf p).getD i 0 = sumsAt ofArrivalsOf i p.threads := by
  unfold arrivalsOf
  rw [if_pos h, tallyOf_get _ _ _ _ (by simpa using hi)]
  rw [List.getD_eq_getElem?_getD, List.getElem?_replicate, if_pos hi]; simp
theorem arr_cut {p q : Pg} {k : Nat} (hv : progValid p = true) (hq : progValid q = true) (hk : k < p.threads.length) (e : q = p.thr (p.threads.eraseIdx k)) (i : Nat) (hi : i < p.barriers.length) :
    (arrivalsOf p).getD i 0 = (arrivalsOf q).getD i 0 + sumAt ofArrivalsOf i (p.threads.getD k []) ∧ 0 ≤ (arrivalsOf q).getD i 0 ∧ (arrivalsOf q).getD i 0 ≤ 32 := by
  have hb : i < q.barriers.length := by rw [e]; exact hi
  rw [arr_get hv i hi, arr_get hq i hb]
  have hs := arr_sums i q.threads (valid_thr hq).2
  have h4 := (valid_thr hq).1
  refine ⟨?_, hs.1, by omega⟩
  rw [e]
  exact (sumsAt_erase ofArrivalsOf i p.threads k hk).symm
theorem bal_cut {p q : Pg} {k : Nat} (hq : progValid q = true) (e : q = p.thr (p.threads.eraseIdx k)) (h : isBalanced p = true) : isBalanced q = true := by
  unfold isBalanced at *
  simp only [Bool.and_eq_true, List.all_eq_true] at *
  refine ⟨hq, fun t ht => ?_⟩
  subst e
  exact h.2 t (mem_erase ht)
theorem arr_step {i : Nat} (l : List OpD) (k : Nat) (hk : k < l.length) : sumAt ofArrivalsOf i (l.take (k + 1)) = sumAt ofArrivalsOf i (l.take k) + (if (l.getD k noOp).kind = 7 ∧ (l.getD k noOp).on = i then 1 else 0) := by
  rw [sumAt_take _ _ _ _ hk]
  unfold ofArrivalsOf
  generalize l.getD k noOp = o
  by_cases h1 : o.on = i
  · by_cases h2 : o.kind = 7
    · rw [if_pos h1, if_pos h2, if_pos ⟨h2, h1⟩]
    · rw [if_pos h1, if_neg h2, if_neg (fun h => h2 h.1)]
  · rw [if_neg h1, if_neg (fun h => h1 h.2)]
end Go.Proofs.Ytnobkdkfhgjeeab
