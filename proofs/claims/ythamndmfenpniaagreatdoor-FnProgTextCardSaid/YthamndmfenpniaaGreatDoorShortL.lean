/- A program's text, short of its last byte, is no program's; what is read of a program's text. Plain. -/
import Derived.Test.YthamndmfenpniaaGreatDoorRdImpl
namespace Go.Proofs.YthamndmfenpniaaGreatDoor
open Go.RowKit

theorem fmt_last {p : Pg} (h : progValid p = true) : ∃ F z, toL (fmtProg p) = F ++ (z ++ [10]) ∧ z ≠ [] ∧ (10 : UInt8) ∉ z := by
  obtain ⟨-, hn⟩ := lines_plain h
  have h1 : p.threads ≠ [] := fun e => by have := (valid_threads h).1; rw [e] at this; simp at this
  obtain ⟨B, t, hB⟩ : ∃ B t, p.threads = B ++ [t] := ⟨_, _, (List.dropLast_concat_getLast h1).symm⟩
  obtain ⟨A, hl⟩ : ∃ A, linesP p = A ++ [thrLine t] := ⟨lstLine semsB p.sems ++ lstLine groupsB p.groups ++ lstLine barriersB p.barriers ++ lstLine roomsB p.rooms ++ B.map thrLine, by unfold linesP; rw [hB]; simp⟩
  refine ⟨(A.map fun x => toL x ++ [10]).flatten, toL (thrLine t), ?_, ?_, hn _ (by rw [hl]; simp)⟩
  · rw [toL_fmtProg h, hl]; simp
  · rw [toL_thrLine]
    intro e
    have := congrArg List.length e
    rw [List.length_append, show (toL threadB).length = 6 from rfl] at this
    simp at this
theorem parse_short {s : ByteArray} {p : Pg} (h : parseProg s = some p) : 1 ≤ s.size ∧ parseProg (s.extract 0 (s.size - 1)) = none := by
  obtain ⟨hv, rfl⟩ := parse_iff.1 h
  obtain ⟨F, z, e, hz, hn⟩ := fmt_last hv
  have hsz : (fmtProg p).size = F.length + z.length + 1 := by
    show (toL (fmtProg p)).length = _
    rw [e]
    simp only [List.length_append, List.length_cons, List.length_nil]
    omega
  have e2 : toL ((fmtProg p).extract 0 ((fmtProg p).size - 1)) = F ++ z := by
    rw [toL_extract, e, hsz, List.drop_zero, Nat.add_sub_cancel, Nat.sub_zero, ← List.append_assoc, List.take_left' (by rw [List.length_append])]
  refine ⟨by omega, ?_⟩
  cases hq : parseProg ((fmtProg p).extract 0 ((fmtProg p).size - 1)) with
  | none => rfl
  | some q =>
    obtain ⟨hv2, e3⟩ := parse_iff.1 hq
    obtain ⟨F2, z2, e4, -, -⟩ := fmt_last hv2
    rw [e3, e2] at e4
    obtain ⟨Z, c, hZ⟩ : ∃ Z c, z = Z ++ [c] := ⟨_, _, (List.dropLast_concat_getLast hz).symm⟩
    have g1 := congrArg List.getLast? e4
    rw [hZ, ← List.append_assoc, ← List.append_assoc] at g1
    simp only [List.getLast?_append, List.getLast?_singleton, Option.some_or, Option.some.injEq] at g1
    exact absurd (by rw [hZ, g1]; simp) hn
theorem parse_of_fmt (p : Pg) : parseProg (fmtProg p) = if progValid p = true then some p else none := by
  by_cases hv : progValid p = true
  · rw [if_pos hv]; exact parse_fmt hv
  · rw [if_neg hv]
    cases hq : parseProg (fmtProg p) with
    | none => rfl
    | some q =>
      obtain ⟨hv2, e3⟩ := parse_iff.1 hq
      obtain ⟨F2, z2, e4, -, -⟩ := fmt_last hv2
      have e5 : toL (fmtProg p) = [] := by unfold fmtProg; rw [if_neg hv]
      rw [e3, e5] at e4
      simp at e4
end Go.Proofs.YthamndmfenpniaaGreatDoor
