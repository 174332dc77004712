/- HasCircle of the reference. -/
import Derived.Test.YtklbjnphfpjgeaaGraph
import Derived.Test.YtklbjnphfpjgeaaEdgeS
namespace Go.Proofs.Ytklbjnphfpjgeaa
open Go.RowKit

set_option maxHeartbeats 400000 in
theorem leads_any (a : Option Addr) (n c : Nat) (es : List (Int × Int)) (x : Int × Int) (w : World) (hn : n ≤ 1099511627776) (hl : es.length = n) (h1 : Rd w a (edges es)) :
    Calls Try.prog 31 #[.slice a n c, .agg #[.int .i64 x.1, .int .i64 x.2]] w fun e w' => e = .returned (.bool (leads es x)) ∧ Below w.heap.size w w' := by
  have HL := Lib.hid hl
  clear hl
  have hb0 : Below w.heap.size w (w.alloc (.cells #[.int .i64 x.1, .int .i64 x.2] 42)) := (Below.refl _ _).alloc (Nat.le_refl _) _
  have h2 := h1.below hb0
  go_enter Try.func31, Try.ntmps31
  go_wp2
  go_loopw [5] (fun i wr => ∃ k : Nat, k ≤ n ∧ i = .int .i64 k ∧ Hid (∀ j, j < k → (es.getD j (0, 0)).1 ≠ x.2) ∧ ∃ d, wr = (w.alloc (.cells #[.int .i64 x.1, .int .i64 x.2] 42)).drewN d) (fun i _ => n - (intOf i).toNat)
  case atStart => exact ⟨0, by omega, rfl, Lib.hid (by omega), 0, rfl⟩
  case round =>
    obtain ⟨k, hk, rfl, hall, d, rfl⟩ := hrel
    by_cases hlt : k < n
    · obtain ⟨b1, o1, rfl, g1'⟩ := h2.edge (by have := HL.out; omega)
      obtain ⟨g1a, g1b⟩ := g1' k (by have := HL.out; omega)
      obtain ⟨y, hy⟩ : ∃ y, y = es.getD k (0, 0) := ⟨_, rfl⟩
      rw [← hy] at g1a g1b
      have HY := Lib.hid hy
      have hx2 : (w.alloc (.cells #[.int .i64 x.1, .int .i64 x.2] 42)).cell? ⟨w.heap.size, 1, none⟩ = some (.int .i64 x.2) := by rw [World.cell?_alloc_at _ _ _ _ rfl]; rfl
      clear g1' hy
      generalize hW : w.alloc (.cells #[.int .i64 x.1, .int .i64 x.2] 42) = W at *
      have HW := Lib.hid hW
      clear hW
      go_wp2
      go_quiet (fail)
      go_wp2
      · go_ret
        have heq : (y.1 == x.2) = true := by assumption
        refine ⟨ret_bool ?_, ?_⟩
        · symm
          rw [leads_iff]
          have hm : es.getD k (0, 0) ∈ es := by
            rw [List.getD_eq_getElem?_getD, List.getElem?_eq_getElem (by have := HL.out; omega)]; simp
          refine ⟨y.2, ?_⟩
          rw [← HY.out] at hm
          simp at heq
          rw [← heq]; exact hm
        · rw [World.drewN_drewN]; exact below_drewN hb0 _
      · have hne : (y.1 == x.2) = false := by assumption
        refine ⟨⟨k + 1, by omega, by go_num, Lib.hid ?_, d + nq, rfl⟩, by simp [intOf]; omega⟩
        intro j hj
        by_cases hjk : j = k
        · rw [hjk, ← HY.out]; simpa using hne
        · exact hall.out j (by omega)
    · have hkm : k = n := by omega
      subst hkm
      go_wp2
      go_ret
      refine ⟨ret_bool ?_, below_drewN hb0 _⟩
      symm
      rw [Bool.eq_false_iff]
      intro ht
      obtain ⟨z, hz⟩ := leads_iff.1 ht
      obtain ⟨j, hj, e⟩ := List.mem_iff_getElem.1 hz
      have := hall.out j (by rw [HL.out] at hj; exact hj)
      rw [List.getD_eq_getElem?_getD, List.getElem?_eq_getElem hj] at this
      simp [e] at this

/-- A slice's length, for a measure. -/
def lenOf' : Value → Nat | .slice _ n _ => n | _ => 0

def prTo (es : List (Int × Int)) (k : Nat) : List (Int × Int) := (es.take k).filter (leads es)
theorem prTo_len (es : List (Int × Int)) (k : Nat) : (prTo es k).length ≤ k := Nat.le_trans (List.length_filter_le _ _) (List.length_take_le _ _)
theorem take_succ_edge (es : List (Int × Int)) (k : Nat) (hk : k < es.length) : es.take (k + 1) = es.take k ++ [es.getD k (0, 0)] := by
  rw [List.take_add_one, List.getElem?_eq_getElem hk]; simp [List.getD, hk]
theorem prTo_yes {es : List (Int × Int)} {k : Nat} (hk : k < es.length) (h : leads es (es.getD k (0, 0)) = true) : prTo es (k + 1) = prTo es k ++ [es.getD k (0, 0)] := by
  unfold prTo
  rw [take_succ_edge es k hk, List.filter_append, List.filter_cons, if_pos h]; simp
theorem prTo_no {es : List (Int × Int)} {k : Nat} (hk : k < es.length) (h : leads es (es.getD k (0, 0)) = false) : prTo es (k + 1) = prTo es k := by
  unfold prTo
  rw [take_succ_edge es k hk, List.filter_append, List.filter_cons, if_neg (by simp only [h]; decide)]; simp
theorem prTo_all {es : List (Int × Int)} {k : Nat} (hk : es.length ≤ k) : prTo es k = prune es := by
  unfold prTo prune
  rw [List.take_of_length_le hk]

set_option maxHeartbeats 1000000 in
theorem specCircle_any (a : Option Addr) (n c : Nat) (es : List (Int × Int)) (w : World) (hn : n ≤ 1048576) (hl : es.length = n) (h1 : Rd w a (edges es)) :
    Calls Try.prog 22 #[.slice a n c] w fun e w' => e = .returned (.bool (circ es)) ∧ Below w.heap.size w w' := by
  have HL := Lib.hid hl
  clear hl
  go_enter Try.func22, Try.ntmps22
  go_wp2
  go_loopw [0] (fun v wr => ∃ (l : List (Int × Int)) (m : Nat) (a' : Option Addr) (c' : Nat), m ≤ n ∧ v = .slice a' m c' ∧ Hid (l.length = m) ∧ Rd wr a' (edges l) ∧ Hid (circ l = circ es) ∧ Below w.heap.size w wr) (fun v _ => lenOf' v)
  case atStart => exact ⟨es, n, a, c, Nat.le_refl _, rfl, HL, h1, Lib.hid rfl, Below.refl _ _⟩
  case round =>
    obtain ⟨l, m, a', c', hm, rfl, hlm, hrd, hcl, hb⟩ := hrel
    obtain ⟨wo, hwo⟩ : ∃ wo : World, wo = wr := ⟨_, rfl⟩
    subst hwo
    go_wp2
    go_loopw [3, 4] (fun v i wr => ∃ (k j : Nat) (a2 : Option Addr) (c2 : Nat), k ≤ m ∧ j ≤ k ∧ i = .int .i64 k ∧ v = .slice a2 j c2 ∧ Hid (j = (prTo l k).length) ∧ wr.ownsRow wo.heap.size 42 2 (.slice a2 j c2) j (edges (prTo l k)) ∧ Below wo.heap.size wo wr) (fun _ i _ => m - (intOf i).toNat)
    case atStart => exact ⟨0, 0, _, _, by omega, by omega, rfl, rfl, Lib.hid rfl, owns_empty _ _ _, (Below.refl _ _).alloc (Nat.le_refl _) _⟩
    case round =>
      obtain ⟨k, j, a2, c2, hk, hj, rfl, rfl, hjl, hown, hb2⟩ := hrel
      by_cases hlt : k < m
      · have hrd' := hrd.below hb2
        obtain ⟨b1, o1, rfl, g1'⟩ := hrd'.edge (by have := hlm.out; omega)
        obtain ⟨g1a, g1b⟩ := g1' k (by have := hlm.out; omega)
        obtain ⟨x, hx⟩ : ∃ x, x = l.getD k (0, 0) := ⟨_, rfl⟩
        rw [← hx] at g1a g1b
        have HX := Lib.hid hx
        clear g1' hx
        go_wp2_with fail
        refine (leads_any _ m c' l x _ (by omega) hlm.out hrd').mono ?_
        rintro e w2 ⟨rfl, b2⟩
        have hS := hb2.size
        have hS2 := b2.size
        replace hown := owns_below hown b2
        cases hle : leads l x with
        | true =>
          have HLE := Lib.hid hle
          clear hle
          have g2a := b2.cell (p := ⟨b1, o1 + k * 2, none⟩) (World.block_lt_of_cell? _ _ g1a)
          have g2b := b2.cell (p := ⟨b1, o1 + k * 2 + 1, none⟩) (World.block_lt_of_cell? _ _ g1b)
          rw [g1a] at g2a
          rw [g1b] at g2b
          go_wp2_with (at_builtin; refine wpList_append_sl rfl _ _ 31 rfl Try.underlying31 info_edge rfl (by decide) rfl hown rfl rfl rfl (by simp [Value.oneCell']) (by omega) (by decide) (by omega) ?_; intro a3 c3 w3 hown3 hgr3)
          go_roundw
          case rel =>
            have hv := HX.out
            refine ⟨k + 1, j + 1, a3, c3, by omega, by omega, by go_num, rfl, Lib.hid ?_, ?_, (hb2.trans (b2.mono hb2.size)).trans (below_of_grown hgr3 (by omega) (fun q hq => (owns_row hown q hq).1))⟩
            · rw [prTo_yes (by have := hlm.out; omega) (by rw [← hv]; exact HLE.out)]; simp [hjl.out.symm]
            · rw [prTo_yes (by have := hlm.out; omega) (by rw [← hv]; exact HLE.out), ← hv]
              simpa [edges, edge] using hown3
          case measure => simp [intOf]; omega
        | false =>
          have HLE := Lib.hid hle
          clear hle
          go_wp2
          go_roundw
          case rel =>
            have hv := HX.out
            refine ⟨k + 1, j, a2, c2, by omega, by omega, by go_num, rfl, ?_, ?_, hb2.trans (b2.mono hb2.size)⟩
            · rw [prTo_no (by have := hlm.out; omega) (by rw [← hv]; exact HLE.out)]; exact hjl
            · rw [prTo_no (by have := hlm.out; omega) (by rw [← hv]; exact HLE.out)]; exact hown
          case measure => simp [intOf]; omega
      · have hkm : k = m := by omega
        subst hkm
        have hfull := prTo_all (es := l) (k := k) (by have := hlm.out; omega)
        by_cases hjk : j = k
        · subst hjk
          have hres : circ es = decide (0 < j) := by
            rw [← hcl.out, circ_of_same (by rw [← hfull, ← hjl.out, hlm.out]), hlm.out]
          have HR := Lib.hid hres
          clear hres hfull hown
          go_wp2
          go_ret
          exact ⟨ret_bool HR.out.symm, hb.trans (hb2.mono hb.size)⟩
        · have hne : ((j : Int) == (k : Int)) = false := by simp; omega
          have HF := Lib.hid hfull
          have hRd := Rd.of_owns hown
          clear hfull hown
          go_wp2
          go_roundw
          case rel =>
            refine ⟨prune l, j, a2, c2, by omega, rfl, Lib.hid ?_, ?_, Lib.hid ?_, hb.trans (hb2.mono hb.size)⟩
            · rw [← HF.out]; exact hjl.out.symm
            · rw [← HF.out]; exact hRd
            · rw [circ_prune]; exact hcl.out
          case measure => simp [lenOf']; omega

end Go.Proofs.Ytklbjnphfpjgeaa
