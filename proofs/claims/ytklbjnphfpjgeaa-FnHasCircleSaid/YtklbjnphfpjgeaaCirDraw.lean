/- The draw of HasCircle's argument. -/
import Derived.Test.YtklbjnphfpjgeaaDraw10
import Derived.Test.YtklbjnphfpjgeaaHoldSpec
import Derived.Test.YtklbjnphfpjgeaaDrawEdges
import Derived.Test.YtklbjnphfpjgeaaBaseD
import Derived.Test.YtklbjnphfpjgeaaImplCircle
import Derived.Test.YtklbjnphfpjgeaaSpecCircle
namespace Go.Proofs.Ytklbjnphfpjgeaa
open Go.RowKit

def CirPost (w : World) (e : Ending) (w' : World) : Prop := ∃ (es : Es) (m : Nat) (a' : Option Addr) (c' : Nat), e = .returned (.slice a' m c') ∧ es.length = m ∧ m ≤ 1000 ∧ Rd w' a' (edges es) ∧ m ≤ c' ∧ Below w.heap.size w w'

theorem up_path {es : Es} (h : ∀ e ∈ es, e.1 < e.2) {u v : Int} (p : Path es u v) : u < v := by
  induction p with
  | one hm => exact h _ hm
  | cons hm _ ih => have := h _ hm; simp only at this; omega
theorem up_circ (es : Es) : circ (es.filter fun e => decide (e.1 < e.2)) = false := circ_false (fun ⟨u, p⟩ => by
  have := up_path (fun e he => by simpa using (List.mem_filter.1 he).2) p
  omega)
theorem filter_full {es : Es} {q : Int × Int → Bool} (h : ¬ (es.filter q).length < es.length) : es.filter q = es := by
  have h1 := List.length_filter_le q es
  exact List.filter_eq_self.2 (List.length_filter_eq_length_iff.1 (by omega))
theorem back_circ (e : Int × Int) (es : Es) : circ ((e :: es) ++ [(e.2, e.1)]) = true :=
  circ_true ⟨e.1, .cons (v := e.2) (by simp) (.one (by simp))⟩
theorem tail_circ (e : Int × Int) (es : Es) (h : circ es = true) : circ (e :: es) = true := by
  by_cases hc : Circ es
  · obtain ⟨u, p⟩ := hc
    exact circ_true ⟨u, p.mono (fun x hx => by simp [hx])⟩
  · rw [circ_false hc] at h; cases h

set_option maxRecDepth 100000 in
set_option maxHeartbeats 2000000 in
theorem drawHasCircle_any (a : Option Addr) (n c : Nat) (bs : List Int) (w : World) (hC : Code13 w a n c bs) :
    Calls Try.prog 23 #[.slice a n c] w (CirPost w) := by
  go_enter Try.func23, Try.ntmps23
  go_wp2_with fail
  refine hC.open.mono ?_
  rintro e w1 ⟨rfl, n', bs', r1, b1, s1⟩
  have HB1 := Lib.hid b1
  have s1' : w.heap.size + 1 ≤ w1.heap.size := by omega
  clear s1 b1 hC
  go_wp2_with fail
  refine (pick_some w.heap.size a n' c bs' 0 3 w1 r1 (by omega) (by omega)).mono ?_
  rintro e w2 ⟨x, rfl, hx, r2, g2, _⟩
  have s2 := g2.size
  have HB2 := Lib.hid (HB1.out.trans (below_of_grown g2 (by omega) (fun i e => by cases e; omega)))
  clear r1 g2
  by_cases hx0 : x = 0
  · have t0 : ((x : Int) == 0) = true := by rw [hx0]; rfl
    clear hx0
    go_wp2_with fail
    refine (l10Prog_any w.heap.size a n' c bs' (0 + 1) w2 r2 (by omega)).mono ?_
    rintro e w3 ⟨v, vs, p, pos', rfl, o3, f3, z3, r3, hp3, g3⟩
    have HB3 := Lib.hid (HB2.out.trans (below_of_grown g3 (by omega) (fun i e => by cases e; omega)))
    have HZ := Lib.hid (z3.small o3 (by omega))
    have HR := Lib.hid o3.rd
    clear r2 g3 r3 o3 f3 z3
    go_wp2_with fail
    refine (specHoldEdges_any v p w3 HR.out HZ.out).mono ?_
    rintro e w4 ⟨b4, c4, rfl, hr4, hcap4, hb4⟩
    have HB4 := Lib.hid (HB3.out.trans (hb4.mono HB3.out.size))
    have hl : (holdEdges p).length ≤ 1000 := by
      unfold holdEdges
      split
      · next hv => have := hAll_len hv p.threads.length; have := (valid_threads hv).2; omega
      · simp
    go_wp2
    go_ret
    exact ⟨holdEdges p, _, b4, c4, rfl, rfl, hl, hr4, hcap4, HB4.out⟩
  · have t0 : ((x : Int) == 0) = false := by simp; omega
    clear hx0
    go_wp2_with fail
    refine (l10Edges_any w.heap.size a n' c bs' (0 + 1) w2 r2 (by omega)).mono ?_
    rintro e w3 ⟨es, m, b3, c3, p3, rfl, hl, hm, o3, r3, hp3, g3⟩
    have HB3 := Lib.hid (HB2.out.trans (below_of_grown g3 (by omega) (fun i e => by cases e; omega)))
    have HO := Lib.hid o3
    clear r2 g3 r3 o3
    go_wp2
    go_ret
    exact ⟨es, m, b3, c3, rfl, hl, by omega, Rd.of_owns HO.out, (owns_cap HO.out).1, HB3.out⟩

end Go.Proofs.Ytklbjnphfpjgeaa
