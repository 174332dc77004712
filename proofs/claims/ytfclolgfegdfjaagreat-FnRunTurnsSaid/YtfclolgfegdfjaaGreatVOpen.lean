/- How the bytes of a statement's argument read. -/
import Derived.Test.YtfclolgfegdfjaaGreatVBaseA
import Derived.Deep.Slices
import Derived.ProofKit
namespace Go.Proofs.YtfclolgfegdfjaaGreat
open Go.RowKit Go.ChangeShapes Go.WideShapes Go.Deep

section
variable {H : Type} {enc : TypeId × Value → H} {w : World} {base : Nat} {held : Bool}
theorem open_bytes {a : Option Addr} {n c : Nat} {d : DataW H} {p : List MemPlace} (h0 : DataW.Trod enc Tryz.prog w base (fun _ => true) held 22 (.slice a n c) d p) :
    ∃ bs : List Int, bs.length = n ∧ n ≤ maxLen ∧ Rd w a (uf bs) ∧ n ≤ c ∧ ∀ b ∈ bs, 0 ≤ b ∧ b ≤ 255 := by
  obtain ⟨fuel, hf⟩ := h0
  rcases open_ints Tryz.underlying22 Tryz.underlying5 (by kernel_rfl) hf with ⟨hcs, _⟩ | ⟨x, l, cc, zs, hcs, _, hl, hm, hz, _, hcell, hwz⟩
  · simp [Value.cells] at hcs
    obtain ⟨rfl, rfl, rfl⟩ := hcs
    exact ⟨[], rfl, Nat.zero_le _, .inl rfl, Nat.le_refl _, by simp⟩
  · simp [Value.cells] at hcs
    obtain ⟨rfl, rfl, rfl⟩ := hcs
    simp only [if_true] at hz
    refine ⟨zs.take n, by simp; omega, by omega, ?_, hl, ?_⟩
    · obtain ⟨b, o, far⟩ := x
      by_cases h0 : n = 0
      · subst h0; exact .inl (by simp)
      · cases far with
        | some f =>
          exfalso
          have := hcell 0 (by omega)
          simp only [World.cell?, Addr.add] at this
          split at this <;> simp at this
        | none =>
          refine .inr ⟨b, o, rfl, fun j hj => ?_⟩
          simp only [List.length_map, List.length_take] at hj
          have := hcell j (by omega)
          rw [Addr.add_lit] at this
          rw [this]
          simp [uf, List.getD, show j < n by omega, show j < zs.length by omega]
    · intro b hb
      have := hwz b (List.mem_of_mem_take hb)
      simp [Lit.wf, IntKind.min, IntKind.max, IntKind.signed, IntKind.bits] at this
      omega
end

end Go.Proofs.YtfclolgfegdfjaaGreat
