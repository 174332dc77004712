/- What the listed package-level variables hold, as the walks want it: the table of words, the powers of ten. -/
import Derived.Test.YthamndmfenpniaaGreatDoorFmtImpl
import Derived.Test.YthamndmfenpniaaGreatDoorRows
import Derived.Test.YthamndmfenpniaaGreatDoorOpenNums
import Derived.LaidMore
import Derived.OpenShut
import Derived.MakeChecks
import Derived.ChangeArms
namespace Go.Proofs.YthamndmfenpniaaGreatDoor
open Go.RowKit Go.ChangeShapes Go.WideShapes Go.ChangeAt Go.WideElems Go.Deep

def laid4 : List (String × DataW Unit) := [("math/bits.deBruijn32tab", Rows.laid_math_bits_deBruijn32tab), ("math/bits.deBruijn64tab", Rows.laid_math_bits_deBruijn64tab), ("internal/strconv.uint64pow10", Rows.laid_internal_strconv_uint64pow10), ("loop.example/waitkit/impl.opWords", Rows.laid_loop_example_waitkit_impl_opWords)]
theorem gPow : Tryz.prog.globalNamed "internal/strconv.uint64pow10" = some 6 := by kernel_rfl
theorem gWords : Tryz.prog.globalNamed "loop.example/waitkit/impl.opWords" = some 0 := by kernel_rfl
theorem tyWords : (Tryz.prog.globals[0]?).map (·.type) = some 105 := by kernel_rfl
theorem tyPow : (Tryz.prog.globals[6]?).map (·.type) = some 155 := by kernel_rfl

def wordD (i : Nat) : DataW Unit := .agg [.lit (.string (wordB i).data.toList), .lit (.bool (decide (argsN i ≠ 0))), .lit (.bool (decide (argsN i ≠ 1)))]
set_option maxRecDepth 100000 in
theorem words_datum : Rows.laid_loop_example_waitkit_impl_opWords (H := Unit) = .slice (.agg [.lit (.string []), .lit (.bool false), .lit (.bool false)] :: (List.range 10).map fun i => wordD (i + 1)) [] := by
  simp [Rows.laid_loop_example_waitkit_impl_opWords, wordD, List.range, List.range.loop, wordB, argsN]
theorem len_three {α : Type} {l : List α} (h : l.length = 3) : ∃ a b c, l = [a, b, c] := by
  match l, h with
  | [a, b, c], _ => exact ⟨a, b, c, rfl⟩
/-- One entry of the table. -/
theorem open_word {W : World} {base : Nat} {sp : Nat → Bool} {held : Bool} {enc : TypeId × Value → Unit} {fuel : Nat} {cs : List Value} {p : List MemPlace} {s : List UInt8} {b1 b2 : Bool}
    (h : DataW.trod enc Tryz.prog W base sp held fuel 106 cs = some (.agg [.lit (.string s), .lit (.bool b1), .lit (.bool b2)], p)) : cs = [.string ⟨s.toArray⟩, .bool b1, .bool b2] := by
  obtain ⟨xs, n, rfl, hx, hl, hxl, hf⟩ := DataW.trod_struct Tryz.underlying106 h
  have hl3 : cs.length = 3 := by rw [hl]; kernel_rfl
  obtain ⟨c0, c1, c2, rfl⟩ := len_three hl3
  have k9 : Tryz.prog.cellsOf 9 = 1 := by kernel_rfl
  have k4 : Tryz.prog.cellsOf 4 = 1 := by kernel_rfl
  have h0 : DataW.trod enc Tryz.prog W base sp held n 9 (([c0, c1, c2].drop 0).take (Tryz.prog.cellsOf 9)) = xs[0]? := hf 0 _ rfl
  have h1 : DataW.trod enc Tryz.prog W base sp held n 4 (([c0, c1, c2].drop 1).take (Tryz.prog.cellsOf 4)) = xs[1]? := hf 1 _ rfl
  have h2 : DataW.trod enc Tryz.prog W base sp held n 4 (([c0, c1, c2].drop 2).take (Tryz.prog.cellsOf 4)) = xs[2]? := hf 2 _ rfl
  rw [k9] at h0
  rw [k4] at h1 h2
  simp only [List.drop_zero, List.drop_succ_cons, List.take_succ_cons, List.take_zero] at h0 h1 h2
  simp only [Prod.mk.injEq, DataW.agg.injEq] at hx
  obtain ⟨x0, x1, x2, rfl⟩ := len_three (show xs.length = 3 by rw [hxl]; rfl)
  obtain ⟨s', e0, e0', _⟩ := DataW.trod_string Tryz.underlying9 (show DataW.trod _ _ _ _ _ _ _ _ _ = some x0 from h0)
  obtain ⟨b1', e1, e1'⟩ := DataW.trod_bool Tryz.underlying4 (show DataW.trod _ _ _ _ _ _ _ _ _ = some x1 from h1)
  obtain ⟨b2', e2, e2'⟩ := DataW.trod_bool Tryz.underlying4 (show DataW.trod _ _ _ _ _ _ _ _ _ = some x2 from h2)
  simp only [List.cons.injEq, and_true] at e0 e1 e2
  subst e0 e1 e2 e0' e1' e2'
  simp only [List.map_cons, List.map_nil, List.cons.injEq, and_true, DataW.lit.injEq, Lit.string.injEq, Lit.bool.injEq] at hx
  obtain ⟨⟨rfl, rfl, rfl⟩, _⟩ := hx
  rfl

theorem laid_of {W : World} (h : laidMetH Tryz.prog laid4 W) : Laid W := by
  rw [MakeChecks.laidMetH_plain _ _ _ (by kernel_rfl)] at h
  obtain ⟨ps, ⟨g0, t0, cs0, f0, p0, q0, hg0, ht0, hv0, hd0, ⟨g1, t1, cs1, f1, p1, q1, hg1, ht1, hv1, hd1, ⟨g2, t2, cs2, f2, p2, q2, hg2, ht2, hv2, hd2, ⟨g3, t3, cs3, f3, p3, q3, hg3, ht3, hv3, hd3, _, _⟩, _⟩, _⟩, _⟩, _, _⟩ := h
  obtain rfl := Option.some.inj (gPow.symm.trans hg2)
  obtain rfl := Option.some.inj (tyPow.symm.trans ht2)
  obtain rfl := Option.some.inj (gWords.symm.trans hg3)
  obtain rfl := Option.some.inj (tyWords.symm.trans ht3)
  refine ⟨?_, ?_⟩
  · rw [words_datum] at hd3
    rcases DataW.trod_slice Tryz.underlying105 hd3 with ⟨_, hx⟩ | ⟨a, len, cap, elems, rest, n, _, hcs, hx, _, hl, _, hlen, hel, _⟩
    · simp at hx
    · simp only [Prod.mk.injEq, DataW.slice.injEq] at hx
      obtain ⟨⟨he, _⟩, _⟩ := hx
      have hn : len = 11 := by rw [← hlen, ← List.length_map (f := Prod.fst), ← he]; rfl
      subst hn
      have hcell : W.cell? ⟨0, 0, none⟩ = some (.slice (some a) 11 cap) := by
        have := World.var?_cell hg3 hv3 0
        rw [Array.eq_one_of_toList hcs] at this
        simpa using this
      have k3 : Tryz.prog.cellsOf 106 = 3 := by kernel_rfl
      rw [k3] at hel
      have each : ∀ i : Nat, 1 ≤ i → i < 11 → ∀ j (u : Value), [Value.string (wordB i), .bool (decide (argsN i ≠ 0)), .bool (decide (argsN i ≠ 1))][j]? = some u → W.cell? (a.add (i * 3 + j)) = some u := by
        intro i h1 h11 j u hu
        have hei := hel i h11
        have hmi : (elems.map (·.1))[i]? = some (wordD i) := by
          rw [← he]
          obtain ⟨j, rfl⟩ : ∃ j, i = j + 1 := ⟨i - 1, by omega⟩
          simp [show j < 10 by omega]
        rw [List.getElem?_map] at hmi
        obtain ⟨e, hee, hed⟩ := Option.map_eq_some_iff.1 hmi
        rw [hee] at hei
        obtain ⟨cs, hcs', htr⟩ := Option.bind_eq_some_iff.1 hei
        obtain ⟨d, p⟩ := e
        simp only at hed
        subst hed
        have hw := open_word htr
        obtain ⟨_, hlen3, hcell3⟩ := World.cells?_some hcs'
        have hj3 : j < 3 := by have := (List.getElem?_eq_some_iff.1 hu).1; simpa using this
        have := hcell3 j hj3
        rw [add_add] at this
        rw [this, hw]
        exact hu
      obtain ⟨b, o, spot⟩ := a
      cases spot with
      | some s =>
        exfalso
        have h0 := hel 0 (by omega)
        rw [List.getElem?_eq_getElem (by omega)] at h0
        obtain ⟨cs, hcs', _⟩ := Option.bind_eq_some_iff.1 h0
        obtain ⟨_, hlen3, hcell3⟩ := World.cells?_some hcs'
        have := hcell3 0 (by decide)
        rw [List.getElem?_eq_getElem (by omega)] at this
        simp only [World.cell?, Addr.add] at this
        simp at this
        split at this <;> cases this
      | none =>
        refine ⟨b, o, cap, hcell, fun i h1 h11 => ?_⟩
        have z : ∀ j, (⟨b, o, none⟩ : Addr).add j = ⟨b, o + j, none⟩ := fun j => by
          unfold Addr.add
          split
          · next h => rw [h]; rfl
          · rfl
        have e0 := each i h1 h11 0 _ rfl
        have e1 := each i h1 h11 1 _ rfl
        have e2 := each i h1 h11 2 _ rfl
        rw [z] at e0 e1 e2
        exact ⟨e0, e1, e2⟩
  · unfold Pow10 Lib.TabIs
    rw [hv2, ← Lib.cells_of_tab Tryz.underlying155 Tryz.underlying130 (by kernel_rfl) (by kernel_rfl) (show DataW.trod _ _ _ _ _ _ _ _ _ = some (Lib.tabData .u64 Lib.pow10Tab, p2) from hd2)]

end Go.Proofs.YthamndmfenpniaaGreatDoor
