/- How a list of numbers among the arguments reads. -/
import Derived.Test.YtnlijgjpgdjpiaaGreatQOpenPgm
namespace Go.Proofs.YtnlijgjpgdjpiaaGreat
open Go.RowKit Go.ChangeShapes Go.WideShapes Go.Deep

theorem open_intl {H : Type} {enc : TypeId × Value → H} {w : World} {base : Nat} {spare : Nat → Bool} {held : Bool} {a : Option Addr} {n c : Nat} {d : DataW H} {p : List MemPlace} (h0 : DataW.Trod enc Tryz.prog w base spare held 22 (.slice a n c) d p) :
    ∃ e : List Int, e.length = n ∧ n ≤ maxLen ∧ Rd w a (ints e) := by
  obtain ⟨fuel, hf⟩ := h0
  have h : DataW.trod enc Tryz.prog w base spare held fuel 22 [.slice a n c] = some (d, p) := by simpa [Value.cells] using hf
  obtain ⟨a', n', c', xs, hcs, hl, hn, hr⟩ := zdW h
  simp only [List.cons.injEq, Value.slice.injEq, and_true] at hcs
  obtain ⟨rfl, rfl, rfl⟩ := hcs
  exact ⟨xs, hl, hn, hr⟩

end Go.Proofs.YtnlijgjpgdjpiaaGreat
