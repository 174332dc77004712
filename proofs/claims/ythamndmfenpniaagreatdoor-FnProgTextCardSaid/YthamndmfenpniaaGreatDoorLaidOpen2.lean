/- What the eight listed variables hold, and what the world's shape says of the search's bound and the two errors. -/
import Derived.Test.YthamndmfenpniaaGreatDoorLaidOpen
import Derived.Test.YthamndmfenpniaaGreatDoorPNum
import Derived.Handed
import Derived.Shelf.Vars
import Derived.WideShapes
import Derived.Stop.LaidErr
import Derived.Stop.Joined
namespace Go.Proofs.YthamndmfenpniaaGreatDoor
open Go.RowKit Go.ChangeShapes Go.WideShapes Go.ChangeAt Go.WideElems Go.Deep

def laid8 : List (String × DataW Unit) := [("math/bits.deBruijn32tab", Rows.laid_math_bits_deBruijn32tab), ("math/bits.deBruijn64tab", Rows.laid_math_bits_deBruijn64tab), ("internal/strconv.uint64pow10", Rows.laid_internal_strconv_uint64pow10), ("unicode/utf8.acceptRanges", Rows.laid_unicode_utf8_acceptRanges), ("strconv.ErrRange", Rows.laid_strconv_ErrRange), ("strconv.ErrSyntax", Rows.laid_strconv_ErrSyntax), ("loop.example/waitkit/impl.opWords", Rows.laid_loop_example_waitkit_impl_opWords), ("unicode/utf8.first", Rows.laid_unicode_utf8_first)]
theorem laid_of8 {W : World} (h : laidMetH Tryz.prog laid8 W) : Laid W := by
  rw [MakeChecks.laidMetH_plain _ _ _ (by kernel_rfl)] at h
  obtain ⟨ps, ⟨g0, t0, cs0, f0, p0, q0, hg0, ht0, hv0, hd0, ⟨g1, t1, cs1, f1, p1, q1, hg1, ht1, hv1, hd1, ⟨g2, t2, cs2, f2, p2, q2, hg2, ht2, hv2, hd2, ⟨g6, t6, cs6, f6, p6, q6, hg6, ht6, hv6, hd6, ⟨g4, t4, cs4, f4, p4, q4, hg4, ht4, hv4, hd4, ⟨g5, t5, cs5, f5, p5, q5, hg5, ht5, hv5, hd5, ⟨g6, t6, cs6, f6, p6, q6, hg6, ht6, hv6, hd6, ⟨g7, t7, cs7, f7, p7, q7, hg7, ht7, hv7, hd7, _, _⟩, _⟩, _⟩, _⟩, _⟩, _⟩, _⟩, _⟩, _, _⟩ := h
  obtain rfl := Option.some.inj (gPow.symm.trans hg2)
  obtain rfl := Option.some.inj (tyPow.symm.trans ht2)
  obtain rfl := Option.some.inj (gWords.symm.trans hg6)
  obtain rfl := Option.some.inj (tyWords.symm.trans ht6)
  refine ⟨?_, ?_⟩
  · rw [words_datum] at hd6
    rcases DataW.trod_slice Tryz.underlying105 hd6 with ⟨_, hx⟩ | ⟨a, len, cap, elems, rest, n, _, hcs, hx, _, hl, _, hlen, hel, _⟩
    · simp at hx
    · simp only [Prod.mk.injEq, DataW.slice.injEq] at hx
      obtain ⟨⟨he, _⟩, _⟩ := hx
      have hn : len = 11 := by rw [← hlen, ← List.length_map (f := Prod.fst), ← he]; rfl
      subst hn
      have hcell : W.cell? ⟨0, 0, none⟩ = some (.slice (some a) 11 cap) := by
        have := World.var?_cell hg6 hv6 0
        rw [Array.eq_one_of_toList hcs] at this
        simpa using this
      have k3 : Tryz.prog.cellsOf 106 = 3 := by kernel_rfl
      rw [k3] at hel
      have each : ∀ i : Nat, 1 ≤ i → i < 11 → ∀ j (u : Value), [Value.string (wordB i), .bool (decide (argsN i ≠ 0)), .bool (decide (argsN i ≠ 1))][j]? = some u → W.cell? (a.add (i * 3 + j)) = some u := by
        intro i h1 h11 j u hu
        have hei := hel i h11
        have hmi : (elems.map (·.1))[i]? = some (wordD i) := by
          rw [← he]
          obtain ⟨j, rfl⟩ : ∃ j, i = j + 1 := ⟨i - 1, by omega⟩
          simp [show j < 10 by omega]
        rw [List.getElem?_map] at hmi
        obtain ⟨e, hee, hed⟩ := Option.map_eq_some_iff.1 hmi
        rw [hee] at hei
        obtain ⟨cs, hcs', htr⟩ := Option.bind_eq_some_iff.1 hei
        obtain ⟨d, p⟩ := e
        simp only at hed
        subst hed
        have hw := open_word htr
        obtain ⟨_, hlen3, hcell3⟩ := World.cells?_some hcs'
        have hj3 : j < 3 := by have := (List.getElem?_eq_some_iff.1 hu).1; simpa using this
        have := hcell3 j hj3
        rw [add_add] at this
        rw [this, hw]
        exact hu
      obtain ⟨b, o, spot⟩ := a
      cases spot with
      | some s =>
        exfalso
        have h0 := hel 0 (by omega)
        rw [List.getElem?_eq_getElem (by omega)] at h0
        obtain ⟨cs, hcs', _⟩ := Option.bind_eq_some_iff.1 h0
        obtain ⟨_, hlen3, hcell3⟩ := World.cells?_some hcs'
        have := hcell3 0 (by decide)
        rw [List.getElem?_eq_getElem (by omega)] at this
        simp only [World.cell?, Addr.add] at this
        simp at this
        split at this <;> cases this
      | none =>
        refine ⟨b, o, cap, hcell, fun i h1 h11 => ?_⟩
        have z : ∀ j, (⟨b, o, none⟩ : Addr).add j = ⟨b, o + j, none⟩ := fun j => by
          unfold Addr.add
          split
          · next h => rw [h]; rfl
          · rfl
        have e0 := each i h1 h11 0 _ rfl
        have e1 := each i h1 h11 1 _ rfl
        have e2 := each i h1 h11 2 _ rfl
        rw [z] at e0 e1 e2
        exact ⟨e0, e1, e2⟩
  · unfold Pow10 Lib.TabIs
    rw [hv2, ← Lib.cells_of_tab Tryz.underlying155 Tryz.underlying130 (by kernel_rfl) (by kernel_rfl) (show DataW.trod _ _ _ _ _ _ _ _ _ = some (Lib.tabData .u64 Lib.pow10Tab, p2) from hd2)]


theorem rowE (u : TypeId) (h : Tryz.prog.typeName? 3 u = some "*errors.errorString") : u = 151 :=
  typeName_ptr_named (nm := "errors.errorString") (by rw [show "*" ++ "errors.errorString" = "*errors.errorString" by decide]; kernel_rfl) (by kernel_rfl) (by decide) u (by rw [show "*" ++ "errors.errorString" = "*errors.errorString" by decide]; exact h)
theorem laid2_of {W : World} (h : laidMetH Tryz.prog laid8 W) (hs : W.ShapedOpen Tryz.prog) : Laid2 W := by
  have hm := h
  rw [MakeChecks.laidMetH_plain _ _ _ (by kernel_rfl)] at hm
  have h4 : laidMet Tryz.prog (("strconv.ErrRange", Rows.laid_strconv_ErrRange) :: ("strconv.ErrSyntax", Rows.laid_strconv_ErrSyntax) :: laid8.drop 6) W := hm.tail.tail.tail.tail
  obtain ⟨a, x, hv, -⟩ := laid_sentinel h4 (show Tryz.prog.globalNamed "strconv.ErrRange" = some 3 by kernel_rfl) (show (Tryz.prog.globals[3]?).map (·.type) = some 70 by kernel_rfl) Tryz.underlying70 rowE Tryz.underlying151 Tryz.underlying153 rfl rfl Tryz.underlying9 (by kernel_rfl) (by kernel_rfl)
  obtain ⟨b, y, hu, -⟩ := laid_sentinel h4.tail (show Tryz.prog.globalNamed "strconv.ErrSyntax" = some 2 by kernel_rfl) (show (Tryz.prog.globals[2]?).map (·.type) = some 70 by kernel_rfl) Tryz.underlying70 rowE Tryz.underlying151 Tryz.underlying153 rfl rfl Tryz.underlying9 (by kernel_rfl) (by kernel_rfl)
  exact ⟨laid_of8 h, cell_of_shapedOpen_int (zero := #[.int .i64 0]) (t := 3) hs (of_decide_eq_true (by kernel_rfl)) (by kernel_rfl) rfl (by kernel_rfl) (by kernel_rfl) Tryz.underlying3,
    ⟨_, by have h0 := World.var?_cell (show Tryz.prog.globalNamed "strconv.ErrSyntax" = some 2 by kernel_rfl) hu 0; simpa using h0, .inr ⟨_, _, rfl⟩⟩,
    ⟨_, by have h0 := World.var?_cell (show Tryz.prog.globalNamed "strconv.ErrRange" = some 3 by kernel_rfl) hv 0; simpa using h0, .inr ⟨_, _, rfl⟩⟩⟩

/-- A row of a changed argument, with a look at the world and the world's shape. -/
theorem handed_shaped {H : Type} {enc : TypeId × Value → H} {a : Assume} {C : Checked} {os : Os} {f : FuncId} {fn : Func} {s : ChangeSpec} {conds : List PathCond} {apart fresh handsOn again : Bool} {X : World → Prop}
    (hX : ∀ (w w' : World), w.heap = w'.heap → X w → X w') (own : ownKnob C.prog.godebug = none) (started : os.Started) (noInit : C.prog.inits.idxOf? f = none) (hfn : C.prog.funcs[f]? = some fn)
    (witness : ∃ (w : World) (tape : Tape) (i : Input), w.os = os ∧ (w.forCall tape i).Shaped C.prog ∧ i.vars = [] ∧ Input.okWide C.prog (w.forCall tape i) .any w.heap.size f i ∧
      ((s.pre enc C.prog fn conds apart (w.forCall tape i).memory i.args ∧ X (w.forCall tape i).memory) ∧ sizedMet enc C.prog fn (OpenSpec.ofChange s) apart (w.forCall tape i).memory i.args) ∧ a.holds C.prog (lone (Frame.enter C.prog f i.args .normal) [] (w.forCall tape i)))
    (contract : ∀ (W : World) (base : Nat) (args : Array Value) (ds gs : List (DataW H)) (before : List MemPlace),
      (∀ (j : Nat) t v, fn.params[j]? = some t → args[j]? = some v → Value.okWide C.prog W .any base t v) →
      DataW.Whole enc C.prog fn.params.toList s.vars apart W args.toList ds gs before → X W → W.ShapedOpen C.prog →
      Calls C.prog f args W fun e W' => ∃ v, e = .returned v ∧ s.post enc C.prog fn apart fresh handsOn again W args v W') :
    ReturnsInHanded a C os f .any (fun w args => (s.pre enc C.prog fn conds apart w args ∧ X w) ∧ sizedMet enc C.prog fn (OpenSpec.ofChange s) apart w args) (s.post enc C.prog fn apart fresh handsOn again) := by
  refine returnsInHanded_of_calls own started noInit witness ?_
  intro w tape i _ hsh _ hok hpre _
  obtain ⟨_, _, _, fn', hfn', _, _, _, _, hval⟩ := hok
  obtain rfl : fn' = fn := Option.some.inj (hfn'.symm.trans hfn)
  obtain ⟨⟨⟨ds, gs, before, hw, _⟩, hx⟩, _⟩ := hpre
  refine (contract (w.forCall tape i) w.heap.size i.args ds gs before hval (DataW.Whole.of_heap (w' := w.forCall tape i) (by rfl) hw) (hX _ _ (by rfl) hx) hsh).mono fun e W' ⟨v, he, hp⟩ => ?_
  subst he
  exact ChangeSpec.post_blind hp
end Go.Proofs.YthamndmfenpniaaGreatDoor
