/- slices.Compact at edges. -/
import Derived.Test.YtnobkdkfhgjeeabEdgeCmp
import Derived.Test.YtnobkdkfhgjeeabBaseD
namespace Go.Proofs.Ytnobkdkfhgjeeab
open Go.RowKit

theorem edges_len (es : Es) : (edges es).length = es.length * 2 := flat_len edge_len es
/-- The row while neighbours that are alike are struck: what stays of the first i, what is left over, then the rest from i - 1 on. -/
def CompRow (d : Es) (k i : Nat) (cs : List Value) : Prop :=
  k < i ∧ i ≤ d.length ∧ k = (compTo d i).length ∧ ∃ mid : List Value, mid.length = (i - 1 - k) * 2 ∧ cs = edges (compTo d i) ++ mid ++ edges (d.drop (i - 1))
theorem dropE_cons (d : Es) (j : Nat) (hj : j < d.length) : d.drop j = d.getD j (0, 0) :: d.drop (j + 1) := by
  rw [List.drop_eq_getElem_cons hj]
  congr 1
  simp [List.getD, hj]
theorem compTo_plain (d : Es) : ∀ k, k ≤ d.length → (∀ j, 0 < j → j < k → d.getD j (0, 0) ≠ d.getD (j - 1) (0, 0)) → compTo d k = d.take k
  | 0, _, _ => rfl
  | k + 1, hk, h => by
    unfold compTo
    rw [if_neg (fun c => h k c.1 (by omega) c.2), compTo_plain d k (by omega) (fun j h0 hj => h j h0 (by omega)), List.take_add_one, List.getElem?_eq_getElem (by omega)]
    simp [List.getD, show k < d.length by omega]
theorem CompRow.start {d : Es} {i : Nat} (h0 : 0 < i) (hi : i < d.length) (he : d.getD i (0, 0) = d.getD (i - 1) (0, 0)) (h : ∀ j, 0 < j → j < i → d.getD j (0, 0) ≠ d.getD (j - 1) (0, 0)) : CompRow d i (i + 1) (edges d) := by
  have e1 := compTo_plain d i (by omega) h
  have e2 : compTo d (i + 1) = d.take i := by
    unfold compTo
    rw [if_pos ⟨h0, he⟩, e1]
  refine ⟨by omega, by omega, by rw [e2, List.length_take]; omega, [], by simp, ?_⟩
  rw [e2, List.append_nil, Nat.add_sub_cancel, ← List.flatMap_append, List.take_append_drop]
theorem CompRow.len {d : Es} {k i : Nat} {cs : List Value} (h : CompRow d k i cs) : cs.length = d.length * 2 := by
  obtain ⟨h1, h2, h3, mid, h4, rfl⟩ := h
  simp only [List.length_append, edges_len, List.length_drop, h4, ← h3]
  omega
theorem CompRow.get {d : Es} {k i : Nat} {cs : List Value} (h : CompRow d k i cs) (j : Nat) (hj : j < d.length) (hij : i - 1 ≤ j) (t : Nat) (ht : t < 2) : cs[j * 2 + t]? = (edge (d.getD j (0, 0)))[t]? := by
  obtain ⟨h1, h2, h3, mid, h4, rfl⟩ := h
  have hl : (edges (compTo d i) ++ mid).length = (i - 1) * 2 := by rw [List.length_append, edges_len, ← h3, h4]; omega
  rw [List.getElem?_append_right (by omega), hl]
  have e1 : j * 2 + t - (i - 1) * 2 = (j - (i - 1)) * 2 + t := by omega
  have e2 : (d.drop (i - 1)).getD (j - (i - 1)) (0, 0) = d.getD j (0, 0) := by
    rw [List.getD_eq_getElem?_getD, List.getElem?_drop, List.getD_eq_getElem?_getD]; congr 2; omega
  have e3 := flat_get edge_len (0, 0) (d.drop (i - 1)) (j - (i - 1)) t (by rw [List.length_drop]; omega) ht
  rw [e2, List.getD_eq_getElem?_getD, List.getD_eq_getElem?_getD] at e3
  rw [e1]
  have l1 : (j - (i - 1)) * 2 + t < (edges (d.drop (i - 1))).length := by rw [edges_len, List.length_drop]; omega
  have l2 : t < (edge (d.getD j (0, 0))).length := by rw [edge_len]; exact ht
  rw [List.getElem?_eq_getElem l1, List.getElem?_eq_getElem l2, Option.getD_some, Option.getD_some] at e3
  rw [List.getElem?_eq_getElem l1, List.getElem?_eq_getElem l2, e3]
theorem CompRow.skip {d : Es} {k i : Nat} {cs : List Value} (h : CompRow d k i cs) (hi : i < d.length) (he : d.getD i (0, 0) = d.getD (i - 1) (0, 0)) : CompRow d k (i + 1) cs := by
  obtain ⟨h1, h2, h3, mid, h4, rfl⟩ := h
  have e : compTo d (i + 1) = compTo d i := by rw [compTo, if_pos ⟨by omega, he⟩]
  refine ⟨by omega, by omega, by rw [e]; exact h3, mid ++ edge (d.getD (i - 1) (0, 0)), by rw [List.length_append, edge_len, h4]; omega, ?_⟩
  rw [e, dropE_cons d (i - 1) (by omega), Nat.add_sub_cancel, show i - 1 + 1 = i by omega]
  simp [edges, List.flatMap_cons]
theorem over2 (k : Nat) (a b : Value) (cs : List Value) (h : k + 2 ≤ cs.length) : (cs.set k a).set (k + 1) b = over k [a, b] cs := by
  rw [← over_cons k a [b] cs (by simp; omega), ← over_cons (k + 1) b [] _ (by simp; omega)]
  simp [over]
theorem CompRow.keep {d : Es} {k i : Nat} {cs : List Value} (h : CompRow d k i cs) (hi : i < d.length) (he : d.getD i (0, 0) ≠ d.getD (i - 1) (0, 0)) :
    CompRow d (k + 1) (i + 1) ((cs.set (k * 2) (.int .i64 (d.getD i (0, 0)).1)).set (k * 2 + 1) (.int .i64 (d.getD i (0, 0)).2)) := by
  have hcl := h.len
  have hki := h.1
  rw [over2 _ _ _ _ (by rw [hcl]; omega)]
  obtain ⟨h1, h2, h3, mid, h4, rfl⟩ := h
  have e : compTo d (i + 1) = compTo d i ++ [d.getD i (0, 0)] := by rw [compTo, if_neg (fun c => he c.2)]
  refine ⟨by omega, by omega, by rw [e, List.length_append, ← h3]; rfl, (mid ++ edge (d.getD (i - 1) (0, 0))).drop 2, by rw [List.length_drop, List.length_append, edge_len, h4]; omega, ?_⟩
  have hA : (edges (compTo d i)).length = k * 2 := by rw [edges_len, ← h3]
  unfold over
  rw [List.append_assoc (edges (compTo d i)), List.take_left' hA]
  have e1 : mid ++ edges (d.drop (i - 1)) = (mid ++ edge (d.getD (i - 1) (0, 0))) ++ edges (d.drop i) := by
    rw [dropE_cons d (i - 1) (by omega), show i - 1 + 1 = i by omega]
    simp [edges, List.flatMap_cons]
  have e2 : (edges (compTo d i) ++ (mid ++ edges (d.drop (i - 1)))).drop (k * 2 + [Value.int .i64 (d.getD i (0, 0)).1, .int .i64 (d.getD i (0, 0)).2].length) = (mid ++ edge (d.getD (i - 1) (0, 0))).drop 2 ++ edges (d.drop i) := by
    rw [← hA, List.drop_length_add_append, e1]
    show ((mid ++ edge (d.getD (i - 1) (0, 0))) ++ edges (d.drop i)).drop 2 = _
    rw [List.drop_append_of_le_length (by rw [List.length_append, edge_len]; omega)]
  rw [e2, e, Nat.add_sub_cancel]
  simp [edges, List.flatMap_append, edge]
theorem CompRow.done {d : Es} {k i : Nat} {cs : List Value} (h : CompRow d k i cs) (hi : i = d.length) : cs.take (k * 2) = edges (compTo d d.length) ∧ k = (compTo d d.length).length := by
  obtain ⟨h1, h2, h3, mid, h4, rfl⟩ := h
  subst hi
  refine ⟨?_, h3⟩
  rw [List.append_assoc, List.take_left' (by rw [edges_len, ← h3])]

/-- clear, of some edges. -/
theorem run_clear_edges {P : Program} (w : World) (t e ty : TypeId) (ht : P.underlying t = some (.slice e)) (hv : ∀ w, (zeroValue e).run P w = .ok (.agg #[.int .i64 0, .int .i64 0]) w) (b o k c : Nat) (hk : 0 < k)
    (hc : ∀ j, j < k * 2 → (w.cell? ⟨b, o + j, none⟩).isSome = true) (hf : ∀ j, j < k * 2 → w.frozen? ⟨b, o + j, none⟩ = false) :
    (Builtin.clear_ #[t] ty #[.slice (some ⟨b, o, none⟩) k c]).run P w = .ok (.tuple #[]) (w.setCells b o (List.replicate (k * 2) (.int .i64 0))) := by
  have hzc : (Builtin.zeroCells (Value.cells (.agg #[.int .i64 0, .int .i64 0])) k).toList = List.replicate (k * 2) (.int .i64 0) := by
    apply List.ext_getElem
    · simp [Builtin.zeroCells, Value.cells]
    · intro i h1 h2
      have h3 : i % 2 < 2 := Nat.mod_lt _ (by decide)
      have : ∀ r, r < 2 → (#[Value.int .i64 0, .int .i64 0] : Array Value)[r]! = .int .i64 0 := by
        intro r hr
        match r, hr with
        | 0, _ => rfl
        | 1, _ => rfl
      simp only [List.getElem_replicate]
      simpa [Builtin.zeroCells, Value.cells] using this _ h3
  have hst := run_storeCells_cells (P := P) b o (List.replicate (k * 2) (.int .i64 0)) 0 w (by simpa using hc) (by simpa using hf) (by intro v hv'; rw [List.eq_of_mem_replicate hv']; rfl)
  simp only [Nat.add_zero] at hst
  obtain ⟨k', rfl⟩ : ∃ k', k = k' + 1 := ⟨k - 1, by omega⟩
  simp [Builtin.clear_, run_underlying ht, hv, hzc, hst]

theorem neq_edge_yes (w : World) (a b c d : Int) (h : (a == c && b == d) = true) : (binOp .neq 61 (.agg #[.int .i64 a, .int .i64 b]) (.agg #[.int .i64 c, .int .i64 d])).run Try.prog w = .ok (.bool false) w := by rw [neq_edge, h]; rfl
theorem neq_edge_no (w : World) (a b c d : Int) (h : (a == c && b == d) = false) : (binOp .neq 61 (.agg #[.int .i64 a, .int .i64 b]) (.agg #[.int .i64 c, .int .i64 d])).run Try.prog w = .ok (.bool true) w := by rw [neq_edge, h]; rfl
theorem pairB (x y : Int × Int) : (x.1 == y.1 && x.2 == y.2) = decide (x = y) := by
  rw [Bool.eq_iff_iff]; simp [Prod.ext_iff]
theorem owns_edge {w : World} {X m c : Nat} {cs : List Value} (h : w.ownsRow 0 61 2 (.slice (some ⟨X, 0, none⟩) m c) m cs) {j : Nat} (hj : j < m) {e : Int × Int} (h0 : cs[j * 2]? = (edge e)[0]?) (h1 : cs[j * 2 + 1]? = (edge e)[1]?) :
    w.cell? ⟨X, j * 2, none⟩ = some (.int .i64 e.1) ∧ w.cell? ⟨X, j * 2 + 1, none⟩ = some (.int .i64 e.2) := by
  have hl : cs.length = m * 2 := h.1
  exact ⟨by rw [h.cellAt _ (by omega)]; exact h0, by rw [h.cellAt _ (by omega)]; exact h1⟩
theorem edges_at (d : Es) (j : Nat) (hj : j < d.length) : (edges d)[j * 2]? = (edge (d.getD j (0, 0)))[0]? ∧ (edges d)[j * 2 + 1]? = (edge (d.getD j (0, 0)))[1]? := by
  have k : ∀ t, t < 2 → (edges d)[j * 2 + t]? = (edge (d.getD j (0, 0)))[t]? := fun t ht => by
    have e3 := flat_get edge_len (0, 0) d j t hj ht
    have l1 : j * 2 + t < (edges d).length := by rw [edges_len]; omega
    have l2 : t < (edge (d.getD j (0, 0))).length := by rw [edge_len]; exact ht
    rw [List.getD_eq_getElem?_getD, List.getD_eq_getElem?_getD, List.getElem?_eq_getElem l1, List.getElem?_eq_getElem l2, Option.getD_some, Option.getD_some] at e3
    rw [List.getElem?_eq_getElem l1, List.getElem?_eq_getElem l2, e3]
  exact ⟨k 0 (by decide), k 1 (by decide)⟩

set_option maxRecDepth 100000 in
set_option maxHeartbeats 4000000 in
theorem compactEdges_any (a : Option Addr) (m c : Nat) (d : Es) (w : World) (ho : w.ownsRow 0 61 2 (.slice a m c) m (edges d)) (hm : m ≤ 1048576) :
    Calls Try.prog 77 #[.slice a m c] w fun e w' => ∃ (m' : Nat), e = .returned (.slice a m' c) ∧ w'.ownsRow 0 61 2 (.slice a m' c) m' (edges (compTo d d.length)) ∧ w.grownBy w' (rowOf a) := by
  have hlm : d.length = m := by have := ho.1; rw [edges_len] at this; omega
  have HL := Lib.hid hlm
  have HO := Lib.hid ho
  clear hlm ho
  by_cases h2 : m < 2
  · have t0 : decide ((m : Int) < 2) = true := by simp; omega
    have HM := Lib.hid h2
    clear h2
    go_enter Try.func77, Try.ntmps77
    go_wp2
    go_ret
    refine ⟨m, rfl, ?_, World.grownBy.refl _ _⟩
    rw [compTo_plain d d.length (Nat.le_refl _) (fun j h0 hj => by have := HL.out; have := HM.out; omega), List.take_length]
    exact HO.out
  · have h2' : 2 ≤ m := by omega
    obtain ⟨X, rfl, -, -⟩ := owns_at HO.out (by omega)
    have hmc : m ≤ c ∧ c ≤ maxLen := by
      obtain ⟨cur, hf, htk, hnc, hcm, hcl⟩ := owns_full HO.out
      exact ⟨hnc, hcm⟩
    have hmc1 := hmc.1
    have hmc2 : c ≤ 9223372036854775807 := hmc.2
    have t0 : decide ((m : Int) < 2) = false := by simp; omega
    have kg := guard_edge
    have kg2 := guard_eql_edge
    clear hmc
    go_enter Try.func77, Try.ntmps77
    go_wp2
    go_loopw [3] (fun vk wr => ∃ k : Nat, vk = .int .i64 k ∧ 1 ≤ k ∧ k ≤ m ∧ Hid (∀ j, 0 < j → j < k → d.getD j (0, 0) ≠ d.getD (j - 1) (0, 0)) ∧ ∃ q, wr = w.drewN q) (fun vk _ => m - (intOf vk).toNat)
    case atStart => exact ⟨1, by go_num, by omega, by omega, Lib.hid (by omega), 0, rfl⟩
    case round =>
      obtain ⟨k, rfl, hk1, hkm, hall, q, rfl⟩ := hrel
      by_cases hlt : k < m
      · obtain ⟨x, hx⟩ : ∃ x, x = d.getD k (0, 0) := ⟨_, rfl⟩
        obtain ⟨y, hy⟩ : ∃ y, y = d.getD (k - 1) (0, 0) := ⟨_, rfl⟩
        obtain ⟨p, hp⟩ : ∃ p, k = p + 1 := ⟨k - 1, by omega⟩
        subst hp
        rw [Nat.add_sub_cancel] at hy
        have ea := edges_at d (p + 1) (by have := HL.out; omega)
        have eb := edges_at d p (by have := HL.out; omega)
        obtain ⟨g0, g1⟩ := owns_edge HO.out hlt ea.1 ea.2
        obtain ⟨g2, g3⟩ := owns_edge HO.out (show p < m by omega) eb.1 eb.2
        rw [← hx] at g0 g1
        rw [← hy] at g2 g3
        have HX := Lib.hid hx
        have HY := Lib.hid hy
        have i0 : (0 : Int) ≤ (p : Int) := by omega
        have i1 : (p : Int) < (m : Int) := by omega
        have i2 : (p : Int) + 1 < (m : Int) := by omega
        clear ea eb hx hy
        by_cases hxy : x = y
        · have kn := fun w => eql_edge_yes w x.1 x.2 y.1 y.2 (by rw [pairB]; exact decide_eq_true hxy)
          have hst := CompRow.start (d := d) (i := p + 1) (by omega) (by have := HL.out; omega) (by rw [Nat.add_sub_cancel, ← HX.out, ← HY.out, hxy]) hall.out
          have HST := Lib.hid hst
          clear hxy hst
          go_wp2
          go_quiet (fail)
          clear kn g0 g1 g2 g3
          have i3 : (p : Int) + 1 ≤ (c : Int) := by omega
          have i4 : (m : Int) ≤ (c : Int) := by omega
          have i5 : (p : Int) + 1 ≤ (m : Int) := by omega
          go_wp2
          go_loopw [3, 5] (fun vk vi wr => ∃ (k i : Nat) (cs : List Value), vk = .int .i64 k ∧ vi = .int .i64 i ∧ 1 ≤ i ∧ p + 1 + i ≤ m ∧ k < p + 1 + i ∧ Hid (CompRow d k (p + 1 + i) cs) ∧ Hid (wr.ownsRow 0 61 2 (.slice (some ⟨X, 0, none⟩) m c) m cs) ∧ Hid (w.grownBy wr (some X))) (fun _ vi _ => m - (intOf vi).toNat)
          case atStart => exact ⟨p + 1, 1, edges d, by go_num, by go_num, by omega, by omega, by omega, HST, Lib.hid (owns_below HO.out (below_drewN' _ _)), Lib.hid (grown_drewN _ _)⟩
          case round =>
            obtain ⟨k, i, cs, rfl, rfl, hi1, hpm, hk, HCR, HOC, HGC⟩ := hrel
            obtain ⟨r, hr⟩ : ∃ r, i = r + 1 := ⟨i - 1, by omega⟩
            subst hr
            have j0 : (0 : Int) ≤ (r : Int) := by omega
            by_cases hlt2 : r + 1 < m - (p + 1)
            · obtain ⟨x, hx⟩ : ∃ x, x = d.getD (p + 1 + (r + 1)) (0, 0) := ⟨_, rfl⟩
              obtain ⟨y, hy⟩ : ∃ y, y = d.getD (p + 1 + r) (0, 0) := ⟨_, rfl⟩
              have ga := fun t ht => HCR.out.get (p + 1 + (r + 1)) (by have := HL.out; omega) (by omega) t ht
              have gb := fun t ht => HCR.out.get (p + 1 + r) (by have := HL.out; omega) (by omega) t ht
              obtain ⟨g0, g1⟩ := owns_edge HOC.out (show p + 1 + (r + 1) < m by omega) (ga 0 (by decide)) (ga 1 (by decide))
              obtain ⟨g2, g3⟩ := owns_edge HOC.out (show p + 1 + r < m by omega) (gb 0 (by decide)) (gb 1 (by decide))
              rw [← hx] at g0 g1
              rw [← hy] at g2 g3
              rw [Nat.add_mul] at g0 g1 g2 g3
              have HX := Lib.hid hx
              have HY := Lib.hid hy
              have j1 : (r : Int) < ((m - (p + 1) : Nat) : Int) := by omega
              have j2 : (r : Int) + 1 < ((m - (p + 1) : Nat) : Int) := by omega
              have k0 : (0 : Int) ≤ (k : Int) := by omega
              have k1 : (k : Int) < (m : Int) := by omega
              clear ga gb hx hy
              by_cases hxy : x = y
              · have kn := fun w => neq_edge_yes w x.1 x.2 y.1 y.2 (by rw [pairB]; exact decide_eq_true hxy)
                have hst := HCR.out.skip (by have := HL.out; omega) (by rw [← HX.out, show p + 1 + (r + 1) - 1 = p + 1 + r by omega, ← HY.out, hxy])
                have HST := Lib.hid hst
                clear hxy hst
                go_wp2
                go_quiet (fail)
                clear kn
                go_wp2
                go_roundw
                case rel => exact ⟨k, r + 1 + 1, cs, rfl, by go_num, by omega, by omega, by omega, by rw [show p + 1 + (r + 1 + 1) = p + 1 + (r + 1) + 1 by omega]; exact HST, Lib.hid (owns_below HOC.out (below_drewN' _ _)), Lib.hid (grown_trans HGC.out (grown_drewN _ _))⟩
                case measure => simp [intOf]; omega
              · have kn := fun w => neq_edge_no w x.1 x.2 y.1 y.2 (by rw [pairB]; exact decide_eq_false hxy)
                have hst := HCR.out.keep (by have := HL.out; omega) (by rw [← HX.out, show p + 1 + (r + 1) - 1 = p + 1 + r by omega, ← HY.out]; exact hxy)
                rw [← HX.out] at hst
                have HST := Lib.hid hst
                have hcl : cs.length = m * 2 := HOC.out.1
                have z0 := HOC.out.cellAt (k * 2) (by omega)
                have z1 := HOC.out.cellAt (k * 2 + 1) (by omega)
                rw [List.getElem?_eq_getElem (by omega)] at z0 z1
                have f0 := HOC.out.frozenAt (k * 2)
                have f1 := HOC.out.frozenAt (k * 2 + 1)
                clear hxy hst
                go_wp2
                go_quiet (fail)
                clear kn
                go_wp2
                go_roundw
                case rel =>
                  have R1 := owns_store (owns_below HOC.out (below_drewN' _ nq)) (k * 2) (.int .i64 x.1) rfl
                  have R2 := owns_store R1.1 (k * 2 + 1) (.int .i64 x.2) rfl
                  exact ⟨k + 1, r + 1 + 1, _, by go_num, by go_num, by omega, by omega, by omega, by rw [show p + 1 + (r + 1 + 1) = p + 1 + (r + 1) + 1 by omega]; exact HST, Lib.hid R2.1, Lib.hid (grown_trans HGC.out (grown_trans (grown_drewN _ nq) (grown_trans R1.2 R2.2)))⟩
                case measure => simp [intOf]; omega
            · have him : p + 1 + (r + 1) = m := by omega
              have i0 : (0 : Int) ≤ (k : Int) := by omega
              have i1 : (k : Int) ≤ (m : Int) := by omega
              have i2 : (k : Int) ≤ (c : Int) := by omega
              have n0 : ¬ c = k := by omega
              obtain ⟨cur, hf, htk, hnc, hcm, hcl⟩ := owns_full HOC.out
              have hcl2 : cs.length = m * 2 := HOC.out.1
              have hsp : (m - k) * 2 + k * 2 = m * 2 := by omega
              have hjc : m * 2 ≤ c * 2 := Nat.mul_le_mul_right 2 hmc1
              have hclr : ∀ ty, (Builtin.clear_ #[54] ty #[.slice (some ⟨X, k * 2, none⟩) (m - k) (c - k)]).run Try.prog wr = .ok (.tuple #[]) (wr.setCells X (k * 2) (List.replicate ((m - k) * 2) (.int .i64 0))) := fun ty =>
                run_clear_edges wr 54 61 ty Try.underlying54 (fun _ => by kernel_rfl) X (k * 2) (m - k) (c - k) (by omega) (fun t ht => by
                  rw [hf.cellAt _ (by omega), List.getElem?_eq_getElem (by omega)]
                  rfl) (fun t _ => hf.frozenAt _)
              have R := owns_setCells (List.replicate ((m - k) * 2) (.int .i64 0)) (k * 2) wr cur hf (by rw [List.length_replicate]; omega)
              have R2 := owns_cut R.1 (show k ≤ c by omega)
              have hd := HCR.out.done (by have := HL.out; omega)
              have e5 : (over (k * 2) (List.replicate ((m - k) * 2) (Value.int .i64 0)) cur).take (k * 2) = edges (compTo d d.length) := by
                unfold over
                rw [List.append_assoc, List.take_append_of_le_length (by rw [List.length_take]; omega), List.take_take, Nat.min_self, ← hd.1, ← htk, List.take_take, Nat.min_eq_left (by omega)]
              rw [e5] at R2
              have HR2 := Lib.hid R2
              have HRG := Lib.hid (grown_trans HGC.out R.2)
              clear R R2 hd e5 htk hcl hcl2 hsp hf hnc hcm hjc
              go_wp2_with (at_builtin; refine wpList_clear_at rfl (.tmp 56) 54 rfl rfl hclr ?_)
              go_ret
              exact ⟨k, rfl, HR2.out, HRG.out⟩
        · have kn := fun w => eql_edge_no w x.1 x.2 y.1 y.2 (by rw [pairB]; exact decide_eq_false hxy)
          have HXY := Lib.hid hxy
          clear hxy
          go_wp2
          go_quiet (fail)
          clear kn g0 g1 g2 g3
          go_wp2
          go_roundw
          case rel =>
            refine ⟨p + 1 + 1, by go_num, by omega, by omega, Lib.hid (fun j h0 hj => ?_), q + nq, rfl⟩
            by_cases hjk : j = p + 1
            · rw [hjk, Nat.add_sub_cancel, ← HX.out, ← HY.out]; exact HXY.out
            · exact hall.out j h0 (by omega)
          case measure => simp [intOf]; omega
      · obtain rfl : k = m := by omega
        go_wp2
        go_ret
        refine ⟨k, rfl, ?_, grown_drewN _ _⟩
        rw [compTo_plain d d.length (Nat.le_refl _) (fun j h0 hj => hall.out j h0 (by have := HL.out; omega)), List.take_length]
        exact owns_below HO.out (below_drewN' _ _)

end Go.Proofs.Ytnobkdkfhgjeeab
