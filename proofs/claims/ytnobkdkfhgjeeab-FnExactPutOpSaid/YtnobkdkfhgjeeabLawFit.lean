/- What a changed program's sizes are. -/
import Derived.Test.YtnobkdkfhgjeeabLawKit
import Derived.Test.YtnobkdkfhgjeeabSwap
namespace Go.Proofs.Ytnobkdkfhgjeeab
open Go.RowKit

structure FitP (p : Pg) : Prop where
  small : SmallP p
  size : p.cells.size ≤ 1073741824
  rows : ∀ i, (p.cells.t.getD i []).length ≤ 3145728

def lenSum (ts : List (List OpD)) : Nat := (ts.map List.length).sum

theorem rows_of {p : Pg} (h : SmallP p) : ∀ i, (p.cells.t.getD i []).length ≤ 3145728 := by
  intro i
  unfold Pg.cells
  by_cases hi : i < p.threads.length
  · have e : (p.threads.map opsV).getD i [] = opsV (p.threads.getD i []) := by simp [List.getD, hi]
    show ((p.threads.map opsV).getD i []).length ≤ _
    rw [e, opsV_len]
    have := h.inn i
    omega
  · have e : (p.threads.map opsV).getD i [] = [] := by simp [List.getD, Nat.le_of_not_lt hi]
    show ((p.threads.map opsV).getD i []).length ≤ _
    rw [e]; simp

theorem fit_of {p : Pg} (h : SmallP p) (hl : lenSum p.threads ≤ 16777216) : FitP p := by
  refine ⟨h, ?_, rows_of h⟩
  unfold Cells.size Pg.cells
  simp only [List.length_map]
  rw [flen_ops]
  have h1 := h.ls
  have h2 := h.lg
  have h3 := h.lb
  have h4 := h.lr
  unfold lenSum at hl
  omega

theorem fit_none : FitP noPg := by
  refine fit_of ⟨by simp [noPg], by simp [noPg], by simp [noPg], by simp [noPg], by simp [noPg], fun i => by simp [noPg]⟩ (by simp [noPg, lenSum])

theorem lenSum_set : ∀ (ts : List (List OpD)) (i : Nat) (x : List OpD), lenSum (ts.set i x) ≤ lenSum ts + x.length
  | [], _, _ => by simp [lenSum]
  | t :: ts, 0, x => by simp [lenSum]; omega
  | t :: ts, i + 1, x => by
    have := lenSum_set ts i x
    simp only [lenSum, List.set_cons_succ, List.map_cons, List.sum_cons] at this ⊢
    omega

theorem lenSum_le {v : PV} {p : Pg} {w : World} (hr : RdP w v p) (h : ¬ 1048576 < total v p) : lenSum p.threads ≤ 1048576 := by
  unfold total at h
  have e : tlen p.threads v.nt = lenSum p.threads := by unfold tlen lenSum; rw [← hr.lt, List.take_length]
  omega

theorem fit_swap {v : PV} {p : Pg} {w : World} (a b : Int) (hr : RdP w v p) (hs : Small v p) (h : ¬ 1048576 < total v p) : FitP ((swapThreads p a b).getD noPg) := by
  have hsp := hs.data hr
  have hl := lenSum_le hr h
  unfold swapThreads changeP
  split
  · unfold swapRes
    split
    · refine fit_of (hsp.thr (by rw [swapTs_len]; exact hsp.lt) (fun i => ?_)) ?_
      · by_cases hi : a.toNat < p.threads.length ∧ b.toNat < p.threads.length
        · rw [swapTs_get [] p.threads _ _ i hi.1 hi.2]
          split
          · exact hsp.inn _
          · split <;> exact hsp.inn _
        · unfold swapTs
          simp only [List.getD, List.getElem?_set, List.length_set]
          have := hsp.inn
          simp only [List.getD] at this
          repeat' split
          all_goals first | exact this _ | simp
      · show lenSum (swapTs [] p.threads a.toNat b.toNat) ≤ _
        unfold swapTs
        have h1 := lenSum_set (p.threads.set a.toNat (p.threads.getD b.toNat [])) b.toNat (p.threads.getD a.toNat [])
        have h2 := lenSum_set p.threads a.toNat (p.threads.getD b.toNat [])
        have h3 := hsp.inn a.toNat
        have h4 := hsp.inn b.toNat
        omega
    · exact fit_none
  · exact fit_none

end Go.Proofs.Ytnobkdkfhgjeeab
