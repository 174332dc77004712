/- The draw of edges: l10Edges, DrawEdgesSame. -/
import Derived.Test.YtklbjnphfpjgeaaBaseA
import Derived.Test.YtklbjnphfpjgeaaEdgeS
namespace Go.Proofs.Ytklbjnphfpjgeaa
open Go.RowKit

set_option maxHeartbeats 1000000 in
theorem l10Edges_any (R : Nat) (a : Option Addr) (n c : Nat) (bs : List Int) (p : Int) (w : World) (h : Rdr w R a n c bs p) (hp : p ≤ 1099511620000) :
    Calls Try.prog 28 #[.pointer (some ⟨R, 0, none⟩)] w fun e w' => ∃ (es : List (Int × Int)) (m : Nat) (a' : Option Addr) (c' : Nat) (p' : Int), e = .returned (.slice a' m c') ∧ es.length = m ∧ m ≤ 4 ∧
      w'.ownsRow w.heap.size 42 2 (.slice a' m c') m (edges es) ∧ Rdr w' R a n c bs p' ∧ p' ≤ p + 9 ∧ w.grownBy w' (some R) := by
  have hRl := h.lt
  go_enter Try.func28, Try.ntmps28
  go_wp2_with fail
  refine (num_any R a n c bs p (w.heap.size + 1) 5 5 [3, 2, 4, 1, 0] _ (h.below (((Below.refl _ _).alloc (Nat.le_refl _) _).alloc (by simp) _)) (by omega) rfl (by omega) (by omega) ?_ (by omega)).mono ?_
  · refine .inr ⟨_, 0, rfl, fun j hj => ?_⟩
    rw [Nat.zero_add, World.cell?_alloc_at _ _ _ _ (by simp)]
    match j, hj with
    | 0, _ => rfl
    | 1, _ => rfl
    | 2, _ => rfl
    | 3, _ => rfl
    | 4, _ => rfl
  rintro e w1 ⟨v, rfl, hv, hr1, hg1, hs1⟩
  obtain ⟨V, rfl, hV⟩ : ∃ V : Nat, v = V ∧ V ≤ 4 := by
    simp only [List.mem_cons, List.not_mem_nil, or_false] at hv
    rcases hv with rfl | rfl | rfl | rfl | rfl
    · exact ⟨3, rfl, by omega⟩
    · exact ⟨2, rfl, by omega⟩
    · exact ⟨4, rfl, by omega⟩
    · exact ⟨1, rfl, by omega⟩
    · exact ⟨0, rfl, by omega⟩
  have ho1 : w1.ownsRow w.heap.size 42 2 (.slice (some ⟨w.heap.size, 0, none⟩) 0 0) 0 (edges []) :=
    owns_grown ((owns_empty w 42 2).alloc _) hg1 (fun k e1 e2 => by cases e2; simp [rowOf] at e1; omega)
  have hg1' : w.grownBy w1 (some R) := grown_trans (World.grownBy_alloc _ _ _) (grown_trans (World.grownBy_alloc _ _ _) hg1)
  clear hv hg1
  go_wp2_with fail
  go_loopw [3, 4] (fun v3 v4 wr => ∃ (es : List (Int × Int)) (m : Nat) (a' : Option Addr) (c' : Nat) (p' : Int) (j : Nat), v3 = .slice a' m c' ∧ v4 = .int .i64 j ∧ Hid (es.length = m) ∧ m + j ≤ 4 ∧
      wr.ownsRow w.heap.size 42 2 (.slice a' m c') m (edges es) ∧ Rdr wr R a n c bs p' ∧ p' ≤ p + 1 + 2 * m ∧ w.grownBy wr (some R) ∧ w.heap.size ≤ wr.heap.size) (fun _ v4 _ => (intOf v4).toNat)
  case atStart => exact ⟨[], 0, _, _, p + 1, V, rfl, rfl, Lib.hid rfl, by omega, ho1, hr1, by omega, hg1', hg1'.size⟩
  case round =>
    obtain ⟨es, m, a', c', p', j, rfl, rfl, hl, hmj, hown, hr, hpp, hg, hs⟩ := hrel
    have hpos := hr.pos
    by_cases hj : 0 < j
    · go_wp2_with fail
      refine (pick_some R a n c bs p' 4 _ hr (by omega) (by omega)).mono ?_
      rintro e w2 ⟨x, rfl, hx, hr2, hg2, hs2⟩
      go_wp2_with fail
      refine (pick_some R a n c bs (p' + 1) 4 _ hr2 (by omega) (by omega)).mono ?_
      rintro e w3 ⟨y, rfl, hy, hr3, hg3, hs3⟩
      have hown3 := owns_grown hown (grown_trans hg2 hg3) (fun k e1 e2 => by cases e2; have := owns_row hown _ e1; omega)
      clear hown hr hr2
      go_wp2_with (at_builtin; refine wpList_append_sl rfl _ _ 31 rfl Try.underlying31 info_edge rfl (by decide) rfl hown3 rfl rfl rfl (by simp [Value.oneCell']) (by omega) (by decide) (by have := hs2.out; have := hs3.out; omega) ?_; intro a4 c4 w4 hown4 hgr4)
      go_roundw
      case rel =>
        refine ⟨es ++ [((x : Int), (y : Int))], m + 1, a4, c4, p' + 1 + 1, j - 1, rfl, by go_num, Lib.hid (by simp [hl.out]), by omega, ?_, hr3.gr hgr4 (fun k hk => by have := owns_row hown3 k hk; omega), by omega, ?_, ?_⟩
        · simpa [edges, edge] using hown4
        · exact grown_new (grown_trans hg (grown_trans hg2 hg3)) hgr4 (fun k hk => (owns_row hown3 k hk).1)
        · have := hgr4.size; have := hs2.out; have := hs3.out; omega
      case measure => simp [intOf]; omega
    · have hj0 : j = 0 := by omega
      subst hj0
      go_wp2
      go_ret
      exact ⟨es, m, a', c', p', rfl, hl.out, by omega, hown, hr, by omega, hg⟩

theorem edges_one (es : List (Int × Int)) : ∀ u ∈ edges es, u.oneCell' = true := by
  intro u hu
  obtain ⟨e, _, h⟩ := List.mem_flatMap.1 hu
  simp only [edge, List.mem_cons, List.not_mem_nil, or_false] at h
  rcases h with rfl | rfl <;> rfl

set_option maxHeartbeats 1000000 in
theorem drawEdgesSame_any (a : Option Addr) (n c : Nat) (bs : List Int) (w : World) (hl : bs.length = n) (h1 : Rd w a (bytesV bs)) (hcap : n ≤ c) (hby : ∀ b ∈ bs, 0 ≤ b ∧ b ≤ 255) (hn : n ≤ 1048576) :
    Calls Try.prog 20 #[.slice a n c] w fun e w' => ∃ (es fs : List (Int × Int)) (m1 m2 : Nat) (a1 a2 : Option Addr) (c1 c2 : Nat), e = .returned (.tuple #[.slice a1 m1 c1, .slice a2 m2 c2]) ∧
      es.length = m1 ∧ fs.length = m2 ∧ m1 ≤ 4 ∧ m2 ≤ 4 ∧ Rd w' a1 (edges es) ∧ Rd w' a2 (edges fs) ∧ Below w.heap.size w w' := by
  have HBY := Lib.hid hby
  clear hby
  go_enter Try.func20, Try.ntmps20
  go_wp2_with fail
  refine (open13_any a n c bs _ hl h1 hcap HBY.out hn).mono ?_
  rintro e w1 ⟨rfl, n', bs', hr1, b1, hs1⟩
  have HS1 := Lib.hid hs1
  clear hs1
  go_wp2_with fail
  refine (l10Edges_any w.heap.size a n' c bs' 0 _ hr1 (by omega)).mono ?_
  rintro e w2 ⟨es, m1, a1, c1, p2, rfl, hl1, hm1, ho2, hr2, hp2, hg2⟩
  have HL1 := Lib.hid hl1
  clear hl1
  have b2 : Below w.heap.size w w2 := b1.trans (below_of_grown hg2 b1.size (fun k e => by cases e; omega))
  have hp0 := hr2.pos
  have hz1 := b2.size
  go_wp2_with fail
  refine (pick_some w.heap.size a n' c bs' p2 2 _ hr2 (by omega) (by omega)).mono ?_
  rintro e w3 ⟨v, rfl, hv, hr3, hg3, hs3⟩
  have b3 : Below w.heap.size w w3 := b2.trans (below_of_grown hg3 b2.size (fun k e => by cases e; omega))
  have ho3 := owns_grown ho2 hg3 (fun k e1 e2 => by cases e2; have := owns_row ho2 _ e1; have := HS1.out; omega)
  clear ho2 hr2 hr1
  by_cases hv0 : v = 0
  · subst hv0
    have hr3' := Rd.of_owns ho3
    go_wp2_with (at_builtin; refine wpList_append_src rfl _ _ 31 rfl Try.underlying31 info_edge rfl (by decide) rfl (owns_empty w3 42 2) rfl (owns_nil ho3) (by rw [flat_len edge_len, HL1.out]) (hr3'.below ((Below.refl _ _).alloc (Nat.le_refl _) _)) (edges_one es) (by omega) (by decide) (by simp) ?_; intro a4 c4 w4 ho4 hg4)
    go_ret2
    have b4 : Below w3.heap.size w3 w4 := ((Below.refl _ _).alloc (Nat.le_refl _) _).trans (below_of_grown hg4 (by simp) (fun k hk => by simp [rowOf] at hk; omega))
    refine ⟨es, es, m1, 0 + m1, a1, a4, c1, c4, by simp, HL1.out, by simp [HL1.out], hm1, by omega, hr3'.below b4, Rd.of_owns (by simpa using ho4), b3.trans (b4.mono b3.size)⟩
  · have hv1 : ((v : Int) == 0) = false := by simp; omega
    go_wp2_with fail
    refine (l10Edges_any w.heap.size a n' c bs' (p2 + 1) _ hr3 (by omega)).mono ?_
    rintro e w4 ⟨fs, m2, a2, c2, p4, rfl, hl2, hm2, ho4, hr4, hp4, hg4⟩
    have HL2 := Lib.hid hl2
    clear hl2
    go_wp2_with fail
    go_ret2
    refine ⟨es, fs, m1, m2, a1, a2, c1, c2, rfl, HL1.out, HL2.out, hm1, hm2, Rd.of_owns (owns_grown ho3 hg4 (fun k e1 e2 => by cases e2; have := owns_row ho3 _ e1; have := HS1.out; omega)), Rd.of_owns ho4, b3.trans (below_of_grown hg4 b3.size (fun k e => by cases e; omega))⟩

end Go.Proofs.Ytklbjnphfpjgeaa
