/- A valid program's text is read as that program (the reference's reader): plain. -/
import Derived.Test.YthamndmfenpniaaGreatDoorOpText
namespace Go.Proofs.YthamndmfenpniaaGreatDoor
open Go.RowKit

theorem takeS {α : Type} (l : List α) (d : α) {k : Nat} (h : k < l.length) : l.take (k + 1) = l.take k ++ [l.getD k d] := by
  rw [List.take_add_one, List.getElem?_eq_getElem h, List.getD_eq_getElem?_getD, List.getElem?_eq_getElem h]
  rfl
theorem splitL_tail {c : UInt8} : ∀ (ys : List (List UInt8)) (x : List UInt8), c ∉ x → (∀ y ∈ ys, c ∉ y) → splitL c (x ++ (ys.map (c :: ·)).flatten) = x :: ys
  | [], x, hx, _ => by simpa using splitL_none x hx
  | y :: ys, x, hx, h => by
    rw [List.map_cons, List.flatten_cons, List.cons_append, splitL_cons _ _ hx, splitL_tail ys y (h y List.mem_cons_self) (fun z hz => h z (List.mem_cons_of_mem _ hz))]
theorem getD_toL {parts : List ByteArray} {l : List (List UInt8)} (h : parts.map toL = l) (i : Nat) : toL (parts.getD i noB) = l.getD i [] := by
  subst h
  rw [List.getD_eq_getElem?_getD, List.getD_eq_getElem?_getD, List.getElem?_map]
  cases parts[i]? <;> rfl
/-- The bytes of a thread's operations. -/
def opsL : List OpD → List UInt8
  | [] => []
  | o :: r => 32 :: toL (fmtOp o) ++ (r.map fun x => 44 :: 32 :: toL (fmtOp x)).flatten
theorem opsL_snoc (l : List OpD) (o : OpD) : opsL (l ++ [o]) = (if l = [] then 32 :: toL (fmtOp o) else opsL l ++ 44 :: 32 :: toL (fmtOp o)) := by
  cases l with
  | nil => simp [opsL]
  | cons x r => simp [opsL]
theorem toL_opsTo (s : ByteArray) (l : List OpD) : ∀ k, k ≤ l.length → toL (opsTo s l k) = toL s ++ opsL (l.take k)
  | 0, _ => by simp [opsTo, opsL]
  | k + 1, h => by
    have ih := toL_opsTo s l k (by omega)
    show toL ((if 0 < k then opsTo s l k ++ commaB else opsTo s l k) ++ spB ++ fmtOp (l.getD k noOp)) = _
    rw [takeS l noOp (by omega), opsL_snoc, toL_append, toL_append]
    by_cases hk : 0 < k
    · rw [if_pos hk, if_neg (by
        intro h0
        have := congrArg List.length h0
        rw [List.length_take] at this
        simp only [List.length_nil] at this
        omega), toL_append, ih]
      show _ ++ [44] ++ [32] ++ _ = _
      simp
    · obtain rfl : k = 0 := by omega
      rw [if_neg hk, ih]
      show _ ++ [32] ++ _ = _
      simp [opsL]
/-- The line of a thread. -/
def thrLine (t : List OpD) : ByteArray := opsTo threadB t t.length
theorem toL_thrLine (t : List OpD) : toL (thrLine t) = toL threadB ++ opsL t := by
  rw [thrLine, toL_opsTo _ _ _ (Nat.le_refl _), List.take_length]
theorem toL_thrTo (s : ByteArray) (ts : List (List OpD)) : ∀ i, i ≤ ts.length → toL (thrTo s ts i) = toL s ++ ((ts.take i).map fun t => toL (thrLine t) ++ [10]).flatten
  | 0, _ => by simp [thrTo]
  | i + 1, h => by
    have ih := toL_thrTo s ts i (by omega)
    show toL (opsTo (thrTo s ts i ++ threadB) (ts.getD i []) (ts.getD i []).length ++ nlB) = _
    rw [toL_append, toL_opsTo _ _ _ (Nat.le_refl _), List.take_length, toL_append, ih, takeS ts [] (by omega), List.map_append, List.flatten_append]
    show _ ++ [10] = _ ++ (_ ++ [toL (thrLine (ts.getD i [])) ++ [10]].flatten)
    rw [toL_thrLine]
    simp
theorem toL_listTo (word : ByteArray) (l : List Int) : ∀ k, k ≤ l.length → toL (listTo word l k) = toL word ++ ((l.take k).map fun n => 32 :: toL (decI n)).flatten
  | 0, _ => by simp [listTo]
  | k + 1, h => by
    have ih := toL_listTo word l k (by omega)
    show toL (listTo word l k ++ spB ++ decI (l.getD k 0)) = _
    rw [toL_append, toL_append, ih, takeS l 0 (by omega), List.map_append, List.flatten_append]
    show _ ++ [32] ++ _ = _
    simp
def lstLine (word : ByteArray) (l : List Int) : List ByteArray := if l.length = 0 then [] else [listTo word l l.length]
/-- The lines of a program. -/
def linesP (p : Pg) : List ByteArray := lstLine semsB p.sems ++ lstLine groupsB p.groups ++ lstLine barriersB p.barriers ++ lstLine roomsB p.rooms ++ p.threads.map thrLine
theorem toL_listText (word : ByteArray) (l : List Int) : toL (listText word l) = ((lstLine word l).map fun x => toL x ++ [10]).flatten := by
  unfold listText lstLine
  split
  · rfl
  · rw [toL_append]
    show _ ++ [10] = _
    simp
theorem toL_fmtProg {p : Pg} (h : progValid p = true) : toL (fmtProg p) = ((linesP p).map fun x => toL x ++ [10]).flatten := by
  unfold fmtProg
  rw [if_pos h, toL_thrTo _ _ _ (Nat.le_refl _), List.take_length]
  unfold listsText linesP
  simp only [toL_append, toL_listText, List.map_append, List.flatten_append, List.map_map]
  rfl
/-- What is known of a list's numbers. -/
theorem list_nums {l : List Int} {lo hi : Int} (h : within l lo hi = true) (h0 : 0 ≤ lo) (h9 : hi ≤ 9) : l.length ≤ 3 ∧ ∀ n ∈ l, -9 ≤ n ∧ n ≤ 99 := by
  unfold within at h
  simp only [Bool.and_eq_true, decide_eq_true_eq, List.all_eq_true] at h
  exact ⟨h.1, fun n hn => by have := h.2 n hn; omega⟩
theorem list_cut {word : ByteArray} {l : List Int} (hw : 32 ∉ toL word) (h : ∀ n ∈ l, -9 ≤ n ∧ n ≤ 99) : cutB (listTo word l l.length) 32 = word :: l.map decI := maps_inj (by
  have := cutB_splitL (listTo word l l.length) 32
  rw [toL_listTo _ _ _ (Nat.le_refl _), List.take_length, show (l.map fun n => 32 :: toL (decI n)) = (l.map fun n => toL (decI n)).map (32 :: ·) by rw [List.map_map]; rfl, splitL_tail _ _ hw (fun y hy => by
    obtain ⟨n, hn, rfl⟩ := List.mem_map.1 hy
    exact (dec_facts (h n hn).1 (h n hn).2).2.1.1)] at this
  rw [List.map_cons, List.map_map]
  exact this)
theorem nums_dec {word : ByteArray} {l : List Int} (h : ∀ n ∈ l, -9 ≤ n ∧ n ≤ 99) : ∀ j, j ≤ l.length → numsTo (word :: l.map decI) j = some (l.take j)
  | 0, _ => rfl
  | j + 1, hj => by
    show (match numsTo (word :: l.map decI) j with | none => none | some m => match numB ((word :: l.map decI).getD (j + 1) noB) with | none => none | some x => some (m ++ [x])) = _
    rw [nums_dec h j (by omega)]
    have hm : l.getD j 0 ∈ l := by rw [List.getD_eq_getElem?_getD, List.getElem?_eq_getElem (show j < l.length by omega)]; exact List.getElem_mem _
    have e : (word :: l.map decI).getD (j + 1) noB = decI (l.getD j 0) := by
      rw [List.getD_cons_succ, List.getD_eq_getElem?_getD, List.getElem?_map, List.getElem?_eq_getElem (show j < l.length by omega), List.getD_eq_getElem?_getD, List.getElem?_eq_getElem (show j < l.length by omega)]
      rfl
    rw [e, (dec_facts (h _ hm).1 (h _ hm).2).1, takeS l 0 (by omega)]
theorem lineB_own {word : ByteArray} {l : List Int} (hw : 32 ∉ toL word) (h0 : l.length ≠ 0) (h3 : l.length ≤ 3) (h : ∀ n ∈ l, -9 ≤ n ∧ n ≤ 99) : lineB (listTo word l l.length) word = some l := by
  unfold lineB lineOf
  rw [list_cut hw h, if_pos (by rfl), if_neg (by rw [List.length_cons, List.length_map]; omega)]
  have e : Nat.min ((word :: l.map decI).length - 1) 5 = l.length := by
    rw [List.length_cons, List.length_map]
    show min _ _ = _
    omega
  rw [e, nums_dec h _ (Nat.le_refl _), List.take_length]
  show (if l.length = (word :: l.map decI).length - 1 then some l else none) = _
  rw [if_pos (by rw [List.length_cons, List.length_map]; omega)]
theorem lineB_other {word other : ByteArray} {l : List Int} (hw : 32 ∉ toL word) (hne : word ≠ other) (h : ∀ n ∈ l, -9 ≤ n ∧ n ≤ 99) : lineB (listTo word l l.length) other = none := by
  unfold lineB lineOf
  rw [list_cut hw h, if_neg (show ¬ (word :: l.map decI).getD 0 noB = other from hne)]
theorem lineB_thread {word : ByteArray} (t : List OpD) (hne : threadB ≠ word) : lineB (thrLine t) word = none := by
  have h0 : (cutB (thrLine t) 32).getD 0 noB = threadB := toL_inj (by
    have h1 := cutB_splitL (thrLine t) 32
    rw [toL_thrLine] at h1
    cases t with
    | nil =>
      rw [show toL threadB ++ opsL [] = toL threadB by simp [opsL], splitL_none _ (by decide)] at h1
      exact getD_toL h1 0
    | cons o r =>
      rw [show toL threadB ++ opsL (o :: r) = toL threadB ++ 32 :: (toL (fmtOp o) ++ (r.map fun x => 44 :: 32 :: toL (fmtOp x)).flatten) by simp [opsL], splitL_cons _ _ (by decide)] at h1
      exact getD_toL h1 0)
  unfold lineB lineOf
  rw [h0, if_neg hne]
end Go.Proofs.YthamndmfenpniaaGreatDoor
