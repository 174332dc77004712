/- OnlySems: the reference and the program. -/
import Derived.Test.YtnobkdkfhgjeeabImplProg
namespace Go.Proofs.Ytnobkdkfhgjeeab
open Go.RowKit

def onlyOp (o : OpD) : Bool := decide (o.kind = 1) || decide (o.kind = 2) || decide (o.kind = 3)
def all2 (p : Pg) (q : OpD → Bool) : Bool := p.threads.all (fun t => t.all q)
def onlySems (p : Pg) : Bool := progValid p && all2 p onlyOp

theorem all2_bad {p : Pg} {q : OpD → Bool} {i k : Nat} (hi : i < p.threads.length) (hk : k < (p.threads.getD i []).length) (h : q ((p.threads.getD i []).getD k noOp) = false) : all2 p q = false := by
  unfold all2
  rw [List.all_eq_false]
  have e : p.threads.getD i [] = p.threads[i] := by simp [List.getD, hi]
  rw [e] at hk h
  have e2 : (p.threads[i]).getD k noOp = (p.threads[i])[k] := by simp [List.getD, hk]
  rw [e2] at h
  have : (p.threads[i]).all q = false := by rw [List.all_eq_false]; exact ⟨_, List.getElem_mem hk, by rw [h]; simp⟩
  exact ⟨p.threads[i], List.getElem_mem hi, by rw [this]; simp⟩
theorem all2_good {p : Pg} {q : OpD → Bool} (h : ∀ i, i < p.threads.length → ∀ k, k < (p.threads.getD i []).length → q ((p.threads.getD i []).getD k noOp) = true) : all2 p q = true := by
  unfold all2
  rw [List.all_eq_true]
  intro t ht
  obtain ⟨i, hi, rfl⟩ := List.getElem_of_mem ht
  have e : p.threads.getD i [] = p.threads[i] := by simp [List.getD, hi]
  have := h i hi
  rw [e] at this
  rw [List.all_eq_true]
  intro o ho
  obtain ⟨k, hk, rfl⟩ := List.getElem_of_mem ho
  have e2 : (p.threads[i]).getD k noOp = (p.threads[i])[k] := by simp [List.getD, hk]
  rw [← e2]; exact this k hk
/-- What a valid program's operations are. -/
theorem valid_op {p : Pg} (h : progValid p = true) {i k : Nat} (hi : i < p.threads.length) (hk : k < (p.threads.getD i []).length) : opValid p ((p.threads.getD i []).getD k noOp) = true := by
  cases hc : opValid p ((p.threads.getD i []).getD k noOp) with
  | true => rfl
  | false => rw [thread_bad hi hk hc] at h; cases h
theorem valid_threads {p : Pg} (h : progValid p = true) : 1 ≤ p.threads.length ∧ p.threads.length ≤ 4 := by
  unfold progValid at h
  simp only [Bool.and_eq_true, decide_eq_true_eq] at h
  omega
theorem opValid_facts {p : Pg} {o : OpD} (h : opValid p o = true) : (1 ≤ o.kind ∧ o.kind ≤ 10) ∧ (0 ≤ o.on ∧ o.on < shared p o.kind) ∧ argOk p o = true := by
  unfold opValid at h
  simp only [Bool.and_eq_true, decide_eq_true_eq] at h
  exact ⟨⟨h.1.1.1.1, h.1.1.1.2⟩, ⟨h.1.1.2, h.1.2⟩, h.2⟩

end Go.Proofs.Ytnobkdkfhgjeeab
