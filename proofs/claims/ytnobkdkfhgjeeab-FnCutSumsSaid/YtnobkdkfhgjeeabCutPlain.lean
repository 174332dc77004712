/- Plain facts: a program whose thread is cut. -/
import Derived.Test.YtnobkdkfhgjeeabBaseE
import Derived.Test.YtnobkdkfhgjeeabBaseD
import Derived.Test.YtnobkdkfhgjeeabCut
namespace Go.Proofs.Ytnobkdkfhgjeeab
open Go.RowKit

theorem opValid_thr (p : Pg) (ts : List (List OpD)) (o : OpD) : opValid (p.thr ts) o = opValid p o := rfl
theorem valid_thr_of {p : Pg} {ts : List (List OpD)} (h : progValid p = true) (h1 : 1 ≤ ts.length) (h4 : ts.length ≤ 4) (hm : ∀ t ∈ ts, t.length ≤ 8 ∧ ∀ o ∈ t, opValid p o = true) : progValid (p.thr ts) = true := by
  unfold progValid at *
  simp only [Bool.and_eq_true, decide_eq_true_eq, List.all_eq_true] at *
  exact ⟨⟨⟨h.1.1.1, h1⟩, h4⟩, fun t ht => ⟨(hm t ht).1, fun o ho => (hm t ht).2 o ho⟩⟩
theorem valid_ops {p : Pg} (h : progValid p = true) : 1 ≤ p.threads.length ∧ p.threads.length ≤ 4 ∧ ∀ t ∈ p.threads, t.length ≤ 8 ∧ ∀ o ∈ t, opValid p o = true := by
  unfold progValid at h
  simp only [Bool.and_eq_true, decide_eq_true_eq, List.all_eq_true] at h
  exact ⟨by omega, by omega, h.2⟩
theorem mem_erase {α : Type} {l : List α} {i : Nat} {x : α} (h : x ∈ l.eraseIdx i) : x ∈ l := by
  exact (List.eraseIdx_sublist l i).subset h
theorem sizeSum_erase : ∀ (ts : List (List OpD)) (i : Nat), i < ts.length → sizeSum (ts.eraseIdx i) + (ts.getD i []).length = sizeSum ts
  | [], i, h => by simp at h
  | t :: ts, 0, _ => by simp [sizeSum]; omega
  | t :: ts, i + 1, h => by
    have := sizeSum_erase ts i (by simpa using h)
    simp only [List.eraseIdx_cons_succ, List.getD_cons_succ]
    unfold sizeSum at *
    simp only [List.map_cons, List.sum_cons]
    omega
theorem change_some {p q : Pg} {t : Int} {r : Option Pg} (h : changeP p t r = some q) : progValid p = true ∧ (∃ i : Nat, t = i ∧ i < p.threads.length) ∧ r = some q := by
  unfold changeP at h
  split at h
  · next hc =>
    obtain ⟨h1, h2, h3⟩ := hc
    obtain ⟨i, rfl⟩ := Int.eq_ofNat_of_zero_le h2
    exact ⟨h1, ⟨i, rfl, by omega⟩, h⟩
  · cases h
theorem cutThread_some {p q : Pg} {a : Int} (h : cutThread p a = some q) : progValid p = true ∧ progValid q = true ∧ ∃ i : Nat, a = i ∧ i < p.threads.length ∧ 2 ≤ p.threads.length ∧ q = p.thr (p.threads.eraseIdx i) := by
  obtain ⟨hv, ⟨i, rfl, hi⟩, hr⟩ := change_some h
  unfold cutRes at hr
  split at hr
  · cases hr
  · next hn =>
    have e : q = p.thr (p.threads.eraseIdx i) := by simpa using (Option.some.inj hr).symm
    have hv' := valid_ops hv
    have hl : (p.threads.eraseIdx i).length = p.threads.length - 1 := by rw [List.length_eraseIdx, if_pos hi]
    refine ⟨hv, ?_, i, rfl, hi, by omega, e⟩
    rw [e]
    exact valid_thr_of hv (by omega) (by omega) (fun t ht => hv'.2.2 t (mem_erase ht))
theorem cut_sizes {p q : Pg} {i : Nat} (hv : progValid p = true) (hq : progValid q = true) (hi : i < p.threads.length) (e : q = p.thr (p.threads.eraseIdx i)) : q.threads.length + 1 = p.threads.length ∧ sizeP q + (p.threads.getD i []).length = sizeP p := by
  subst e
  refine ⟨?_, ?_⟩
  · show (p.threads.eraseIdx i).length + 1 = _
    rw [List.length_eraseIdx, if_pos hi]; omega
  · unfold sizeP
    rw [if_pos hv, if_pos hq]
    exact sizeSum_erase p.threads i hi
theorem few_thr {p : Pg} {k : Nat} {ts : List (List OpD)} (h : Few p k) (ht : ts.length ≤ k) (hi : ∀ t ∈ ts, t.length ≤ 8) : Few (p.thr ts) k := ⟨h.s, h.g, h.b, h.r, ht, hi⟩
theorem few_noPg (k : Nat) : Few noPg k := ⟨by simp [noPg], by simp [noPg], by simp [noPg], by simp [noPg], by simp [noPg], by simp [noPg]⟩
theorem sizeP_le (p : Pg) : sizeP p ≤ 32 := by
  unfold sizeP
  split
  · next h =>
    have := valid_thr h
    have h2 := sizeSum_le 8 p.threads this.2
    omega
  · omega
end Go.Proofs.Ytnobkdkfhgjeeab
