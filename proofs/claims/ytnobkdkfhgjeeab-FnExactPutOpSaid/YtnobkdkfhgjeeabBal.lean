/- Balanced programs: the plain part. -/
import Derived.Test.YtnobkdkfhgjeeabOnlySems
namespace Go.Proofs.Ytnobkdkfhgjeeab
open Go.RowKit

def balStep (h : List Int) (o : OpD) : Option (List Int) :=
  if o.kind = 2 then some (h.set o.on.toNat (h.getD o.on.toNat 0 + o.arg))
  else if o.kind = 3 then (if h.getD o.on.toNat 0 - o.arg < 0 then none else some (h.set o.on.toNat (h.getD o.on.toNat 0 - o.arg)))
  else some h
def balRun : List Int → List OpD → Option (List Int)
  | h, [] => some h
  | h, o :: os => (balStep h o).bind fun h' => balRun h' os
def balThread (n : Nat) (t : List OpD) : Bool :=
  match balRun (List.replicate n 0) t with
  | some h => h.all (fun x => decide (x = 0))
  | none => false
def isBalanced (p : Pg) : Bool := progValid p && p.threads.all (balThread p.sems.length)

theorem balRun_append (a b : List OpD) : ∀ h, balRun h (a ++ b) = (balRun h a).bind fun h' => balRun h' b := by
  induction a with
  | nil => intro h; rfl
  | cons o os ih =>
    intro h
    simp only [List.cons_append, balRun]
    cases balStep h o with
    | none => rfl
    | some h' => simp [ih h']
theorem balRun_snoc {h : List Int} {t : List OpD} {k : Nat} (hk : k < t.length) : balRun h (t.take (k + 1)) = (balRun h (t.take k)).bind fun h' => balStep h' (t.getD k noOp) := by
  have e : t.take (k + 1) = t.take k ++ [t.getD k noOp] := by rw [List.take_add_one, List.getElem?_eq_getElem hk]; simp [List.getD, hk]
  rw [e, balRun_append]
  congr 1
  funext h'
  simp only [balRun]
  cases balStep h' (t.getD k noOp) <;> rfl
theorem balRun_none {h : List Int} {t : List OpD} {k : Nat} (hn : balRun h (t.take k) = none) : balRun h t = none := by
  have e : t = t.take k ++ t.drop k := (List.take_append_drop k t).symm
  rw [e, balRun_append, hn]; rfl
theorem bal_bad {p : Pg} {i : Nat} (hi : i < p.threads.length) (h : balThread p.sems.length (p.threads.getD i []) = false) : isBalanced p = false := by
  have : p.threads.all (balThread p.sems.length) = false := by
    rw [List.all_eq_false]
    have e : p.threads.getD i [] = p.threads[i] := by simp [List.getD, hi]
    rw [e] at h
    exact ⟨p.threads[i], List.getElem_mem hi, by rw [h]; simp⟩
  unfold isBalanced; rw [this]; simp
theorem bal_good {p : Pg} (hv : progValid p = true) (h : ∀ i, i < p.threads.length → balThread p.sems.length (p.threads.getD i []) = true) : isBalanced p = true := by
  have : p.threads.all (balThread p.sems.length) = true := by
    rw [List.all_eq_true]
    intro t ht
    obtain ⟨i, hi, rfl⟩ := List.getElem_of_mem ht
    have e : p.threads.getD i [] = p.threads[i] := by simp [List.getD, hi]
    rw [← e]; exact h i hi
  unfold isBalanced; rw [hv, this]; rfl
/-- What the counters are after k steps. -/
def Held (n k : Nat) (h : List Int) : Prop := h.length = n ∧ ∀ j, -(9 * (k : Int)) ≤ h.getD j 0 ∧ h.getD j 0 ≤ 9 * (k : Int)
theorem held_start (n : Nat) : Held n 0 (List.replicate n 0) := ⟨by simp, fun j => by
  have : (List.replicate n (0 : Int)).getD j 0 = 0 := by
    simp only [List.getD, List.getElem?_replicate]; split <;> rfl
  rw [this]; simp⟩
theorem held_set {n k : Nat} {h : List Int} {i : Nat} {x : Int} (hh : Held n k h) (hx : -(9 * ((k + 1 : Nat) : Int)) ≤ x ∧ x ≤ 9 * ((k + 1 : Nat) : Int)) : Held n (k + 1) (h.set i x) := ⟨by simpa using hh.1, fun j => by
  have := hh.2 j
  by_cases hj : j < h.length
  · by_cases hij : i = j
    · subst hij
      have : (h.set i x).getD i 0 = x := by simp [List.getD, hj]
      rw [this]; exact hx
    · have : (h.set i x).getD j 0 = h.getD j 0 := by simp [List.getD, List.getElem?_set_ne hij]
      rw [this]; omega
  · have : (h.set i x).getD j 0 = 0 := by simp [List.getD, Nat.le_of_not_lt hj]
    rw [this]; omega⟩
theorem held_same {n k : Nat} {h : List Int} (hh : Held n k h) : Held n (k + 1) h := ⟨hh.1, fun j => by have := hh.2 j; omega⟩
/-- A valid program's permits. -/
theorem valid_arg {p : Pg} (hv : progValid p = true) {o : OpD} (ho : opValid p o = true) (hk : o.kind = 2 ∨ o.kind = 3) : (0 ≤ o.on ∧ o.on < p.sems.length) ∧ 1 ≤ o.arg ∧ o.arg ≤ 9 := by
  obtain ⟨_, h2, h3⟩ := opValid_facts ho
  have hs : shared p o.kind = p.sems.length := by unfold shared; rw [if_neg (by omega), if_pos hk]
  rw [hs] at h2
  unfold argOk at h3
  rw [if_pos hk] at h3
  simp only [Bool.and_eq_true, decide_eq_true_eq] at h3
  have hw : within p.sems 1 9 = true := by
    unfold progValid at hv
    simp only [Bool.and_eq_true] at hv
    exact hv.1.1.1.1.1.1
  unfold within at hw
  simp only [Bool.and_eq_true, decide_eq_true_eq, List.all_eq_true] at hw
  have hi : o.on.toNat < p.sems.length := by omega
  have e : p.sems.getD o.on.toNat 0 = p.sems[o.on.toNat] := by simp [List.getD, hi]
  have := hw.2 _ (List.getElem_mem hi)
  rw [e] at h3
  exact ⟨h2, h3.1, by omega⟩

end Go.Proofs.Ytnobkdkfhgjeeab
