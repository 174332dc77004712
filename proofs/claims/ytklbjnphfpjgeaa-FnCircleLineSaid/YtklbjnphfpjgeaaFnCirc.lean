/- The draw of HasCircle's argument; the laws FnCircleLine and FnHasCircle: their walks. -/
import Derived.Test.YtklbjnphfpjgeaaDraw10
import Derived.Test.YtklbjnphfpjgeaaHoldSpec
import Derived.Test.YtklbjnphfpjgeaaDrawEdges
import Derived.Test.YtklbjnphfpjgeaaImplCircle
import Derived.Test.YtklbjnphfpjgeaaSpecCircle
namespace Go.Proofs.Ytklbjnphfpjgeaa
open Go.RowKit

def CirPost (w : World) (e : Ending) (w' : World) : Prop := ∃ (es : Es) (m : Nat) (a' : Option Addr) (c' : Nat), e = .returned (.slice a' m c') ∧ es.length = m ∧ m ≤ 1000 ∧ Rd w' a' (edges es) ∧ Below w.heap.size w w'

theorem up_path {es : Es} (h : ∀ e ∈ es, e.1 < e.2) {u v : Int} (p : Path es u v) : u < v := by
  induction p with
  | one hm => exact h _ hm
  | cons hm _ ih => have := h _ hm; simp only at this; omega
theorem up_circ (es : Es) : circ (es.filter fun e => decide (e.1 < e.2)) = false := circ_false (fun ⟨u, p⟩ => by
  have := up_path (fun e he => by simpa using (List.mem_filter.1 he).2) p
  omega)
theorem filter_full {es : Es} {q : Int × Int → Bool} (h : ¬ (es.filter q).length < es.length) : es.filter q = es := by
  have h1 := List.length_filter_le q es
  exact List.filter_eq_self.2 (List.length_filter_eq_length_iff.1 (by omega))
theorem back_circ (e : Int × Int) (es : Es) : circ ((e :: es) ++ [(e.2, e.1)]) = true :=
  circ_true ⟨e.1, .cons (v := e.2) (by simp) (.one (by simp))⟩
theorem tail_circ (e : Int × Int) (es : Es) (h : circ es = true) : circ (e :: es) = true := by
  by_cases hc : Circ es
  · obtain ⟨u, p⟩ := hc
    exact circ_true ⟨u, p.mono (fun x hx => by simp [hx])⟩
  · rw [circ_false hc] at h; cases h

set_option maxRecDepth 100000 in
set_option maxHeartbeats 2000000 in
theorem drawHasCircle_any (a : Option Addr) (n c : Nat) (bs : List Int) (w : World) (hC : Code13 w a n c bs) :
    Calls Try.prog 23 #[.slice a n c] w (CirPost w) := by
  go_enter Try.func23, Try.ntmps23
  go_wp2_with fail
  refine hC.open.mono ?_
  rintro e w1 ⟨rfl, n', bs', r1, b1, s1⟩
  have HB1 := Lib.hid b1
  have s1' : w.heap.size + 1 ≤ w1.heap.size := by omega
  clear s1 b1 hC
  go_wp2_with fail
  refine (pick_some w.heap.size a n' c bs' 0 3 w1 r1 (by omega) (by omega)).mono ?_
  rintro e w2 ⟨x, rfl, hx, r2, g2, _⟩
  have s2 := g2.size
  have HB2 := Lib.hid (HB1.out.trans (below_of_grown g2 (by omega) (fun i e => by cases e; omega)))
  clear r1 g2
  by_cases hx0 : x = 0
  · have t0 : ((x : Int) == 0) = true := by rw [hx0]; rfl
    clear hx0
    go_wp2_with fail
    refine (l10Prog_any w.heap.size a n' c bs' (0 + 1) w2 r2 (by omega)).mono ?_
    rintro e w3 ⟨v, vs, p, pos', rfl, o3, f3, z3, r3, hp3, g3⟩
    have HB3 := Lib.hid (HB2.out.trans (below_of_grown g3 (by omega) (fun i e => by cases e; omega)))
    have HZ := Lib.hid (z3.small o3 (by omega))
    have HR := Lib.hid o3.rd
    clear r2 g3 r3 o3 f3 z3
    go_wp2_with fail
    refine (specHoldEdges_any v p w3 HR.out HZ.out).mono ?_
    rintro e w4 ⟨b4, c4, rfl, hr4, hb4⟩
    have HB4 := Lib.hid (HB3.out.trans (hb4.mono HB3.out.size))
    have hl : (holdEdges p).length ≤ 1000 := by
      unfold holdEdges
      split
      · next hv => have := hAll_len hv p.threads.length; have := (valid_threads hv).2; omega
      · simp
    go_wp2
    go_ret
    exact ⟨holdEdges p, _, b4, c4, rfl, rfl, hl, hr4, HB4.out⟩
  · have t0 : ((x : Int) == 0) = false := by simp; omega
    clear hx0
    go_wp2_with fail
    refine (l10Edges_any w.heap.size a n' c bs' (0 + 1) w2 r2 (by omega)).mono ?_
    rintro e w3 ⟨es, m, b3, c3, p3, rfl, hl, hm, o3, r3, hp3, g3⟩
    have HB3 := Lib.hid (HB2.out.trans (below_of_grown g3 (by omega) (fun i e => by cases e; omega)))
    have HO := Lib.hid o3
    clear r2 g3 r3 o3
    go_wp2
    go_ret
    exact ⟨es, m, b3, c3, rfl, hl, by omega, Rd.of_owns HO.out, HB3.out⟩

set_option maxRecDepth 100000 in
set_option maxHeartbeats 4000000 in
theorem fnCircleLineLaw (a : Option Addr) (n c : Nat) (bs : List Int) (w : World) (hl : bs.length = n) (h1 : Rd w a (bytesV bs)) (hmx : n ≤ maxLen) (hcap : n ≤ c) (hby : ∀ b ∈ bs, 0 ≤ b ∧ b ≤ 255) :
    Calls Try.prog 7 #[.slice a n c] w fun e w' => e = .returned (.bool true) ∧ Below w.heap.size w w' := by
  unfold maxLen at hmx
  have HL := Lib.hid hl
  have HBY := Lib.hid hby
  clear hl hby
  by_cases hn : n ≤ 1048576
  · have hC := Lib.hid (Code13.mk HL.out h1 hcap HBY.out hn)
    clear HL HBY h1
    go_enter Try.func7, Try.ntmps7
    go_wp2_with fail
    refine (drawHasCircle_any a n c bs w hC.out).mono ?_
    rintro e w1 ⟨es, m, b, cb, rfl, hlen, hm, hrd, hb⟩
    have HB := Lib.hid hb
    have HE := Lib.hid hrd
    have HN := Lib.hid hlen
    clear hb hrd hlen hC
    go_wp2_with fail
    refine (implCircle_any b m cb es _ (by omega) HN.out HE.out).mono ?_
    rintro e w2 ⟨rfl, hb⟩
    replace HE := Lib.hid (HE.out.below hb)
    replace HB := Lib.hid (HB.out.trans (hb.mono HB.out.size))
    clear hb
    go_wp2_with fail
    refine (specCircle_any b m cb es _ (by omega) HN.out HE.out).mono ?_
    rintro e w3 ⟨rfl, hb⟩
    replace HE := Lib.hid (HE.out.below hb)
    replace HB := Lib.hid (HB.out.trans (hb.mono HB.out.size))
    clear hb
    obtain ⟨C, hC⟩ : ∃ C, C = circ es := ⟨_, rfl⟩
    rw [← hC]
    have HC := Lib.hid hC
    have t1 : (C != C) = false := by simp
    clear hC
    have bE : Below w3.heap.size w3 (w3.alloc (.cells #[] 42)) := (Below.refl _ _).alloc (Nat.le_refl _) _
    have oE := owns_empty w3 42 2
    have HOE := Lib.hid oE
    have HBE := Lib.hid bE
    clear bE oE
    go_wp2
    go_loopw [5, 6] (fun v5 v6 wr => ∃ (i : Nat) (bo : Option Addr) (co : Nat) (L : Es), i ≤ m ∧ v6 = .int .i64 i ∧ v5 = .slice bo L.length co ∧ Hid (L = (es.take i).filter fun e => decide (e.1 < e.2)) ∧ Hid (wr.ownsRow w3.heap.size 42 2 (.slice bo L.length co) L.length (edges L)) ∧ Hid (Below w3.heap.size w3 wr)) (fun _ v6 _ => m - (intOf v6).toNat)
    case atStart => exact ⟨0, _, _, [], Nat.zero_le _, rfl, rfl, Lib.hid (by simp), HOE, HBE⟩
    case round =>
      obtain ⟨wo, rfl⟩ : ∃ x, x = wr := ⟨_, rfl⟩
      obtain ⟨i, bo, co, L, hi, rfl, rfl, HL, HO, HW⟩ := hrel
      have hLl : L.length ≤ i := by rw [HL.out]; exact Nat.le_trans (List.length_filter_le _ _) (List.length_take_le _ _)
      have hws := HW.out.size
      by_cases hlt : i < m
      · obtain ⟨be, oe, ea, hc⟩ := HE.out.edge (by have := HN.out; omega)
        obtain ⟨gw0, gw1⟩ := hc i (by have := HN.out; omega)
        obtain ⟨f, hf⟩ : ∃ f, f = es.getD i (0, 0) := ⟨_, rfl⟩
        rw [← hf] at gw0 gw1
        have HG0 := Lib.hid gw0
        have HG1 := Lib.hid gw1
        have g0 := keepc HW.out gw0
        have g1 := keepc HW.out gw1
        have hmI : (i : Int) < (m : Int) := by omega
        have hi0 : (0 : Int) ≤ (i : Int) := by omega
        have HNX : Hid ((es.take (i + 1)).filter (fun e => decide (e.1 < e.2)) = L ++ (if f.1 < f.2 then [f] else [])) := Lib.hid (by
          rw [List.take_add_one, List.getElem?_eq_getElem (by have := HN.out; omega), List.filter_append, ← HL.out, hf, List.getD_eq_getElem?_getD, List.getElem?_eq_getElem (by have := HN.out; omega)]
          congr 1
          simp only [Option.toList_some, Option.getD_some, List.filter_cons, List.filter_nil]
          split <;> simp_all)
        clear hc hf gw0 gw1
        subst ea
        by_cases hlt2 : f.1 < f.2
        · have t2 : decide (f.1 < f.2) = true := decide_eq_true hlt2
          have HNY : Hid ((es.take (i + 1)).filter (fun e => decide (e.1 < e.2)) = L ++ [f]) := Lib.hid (by rw [HNX.out, if_pos hlt2])
          clear hlt2
          go_wp2
          go_quiet (fail)
          obtain ⟨W2, hW2⟩ : ∃ W2, W2 = wo.drewN nq := ⟨_, rfl⟩
          have hbq : Below wo.heap.size wo W2 := by rw [hW2]; exact below_drewN (Below.refl _ _) nq
          rw [← hW2]
          clear hW2 g0 g1
          have hown := owns_below HO.out hbq
          have HW2 := Lib.hid (HW.out.trans (hbq.mono HW.out.size))
          have hS2 := HW2.out.size
          have g0 := keepc HW2.out HG0.out
          have g1 := keepc HW2.out HG1.out
          have ONEf : Hid (∀ u ∈ edge f, u.oneCell' = true) := Lib.hid (by intro u hu; simp only [edge, List.mem_cons, List.not_mem_nil, or_false] at hu; rcases hu with rfl | rfl <;> rfl)
          clear hbq
          go_wp2_with (at_builtin; refine wpList_append_sl (m := 1) (cm := 1) (news := edge f) rfl (.tmp 36) (.tmp 41) 31 rfl Try.underlying31 info_edge rfl (by decide) rfl hown rfl rfl rfl ONEf.out (by omega) (by decide) hS2 ?_; intro b5 c5 w5 hown5 hgr5; have HOW := Lib.hid hown; clear hown)
          have HW5 := Lib.hid (HW2.out.trans (below_of_grown hgr5 hS2 (fun k hk => (owns_row HOW.out k hk).1)))
          have ho5 : w5.ownsRow w3.heap.size 42 2 (.slice b5 (L.length + 1) c5) (L.length + 1) (edges (L ++ [f])) := by simpa [edges] using hown5
          go_roundw
          case rel => exact ⟨i + 1, b5, c5, L ++ [f], by omega, by go_num, by simp, Lib.hid HNY.out.symm, Lib.hid (by simpa using ho5), HW5⟩
          case measure => simp [intOf]; omega
        · have t2 : decide (f.1 < f.2) = false := decide_eq_false hlt2
          have HNY : Hid ((es.take (i + 1)).filter (fun e => decide (e.1 < e.2)) = L) := Lib.hid (by rw [HNX.out, if_neg hlt2]; simp)
          clear hlt2
          go_wp2
          go_quiet (fail)
          obtain ⟨W2, hW2⟩ : ∃ W2, W2 = wo.drewN nq := ⟨_, rfl⟩
          have hbq : Below wo.heap.size wo W2 := by rw [hW2]; exact below_drewN (Below.refl _ _) nq
          rw [← hW2]
          clear hW2 g0 g1
          have HO2 := Lib.hid (owns_below HO.out hbq)
          have HW2 := Lib.hid (HW.out.trans (hbq.mono HW.out.size))
          clear hbq
          go_wp2
          go_roundw
          case rel => exact ⟨i + 1, bo, co, L, by omega, by go_num, rfl, Lib.hid HNY.out.symm, HO2, HW2⟩
          case measure => simp [intOf]; omega
      · obtain rfl : i = m := by omega
        have HLF : Hid (L = es.filter fun e => decide (e.1 < e.2)) := Lib.hid (by rw [HL.out, ← HN.out, List.take_length])
        have hcf : circ L = false := by rw [HLF.out]; exact up_circ es
        have hfl : ¬ L.length < i → C = false := fun h => by
          have h1 := filter_full (es := es) (q := fun e => decide (e.1 < e.2)) (by rw [← HLF.out, HN.out]; exact h)
          have h2 := up_circ es
          rw [h1] at h2
          rw [HC.out, h2]
        have HCF := Lib.hid hcf
        have HFL := Lib.hid hfl
        have HB3 := Lib.hid (HB.out.trans (HW.out.mono HB.out.size))
        clear hcf hfl
        go_wp2_with fail
        refine (implCircle_any bo L.length co L _ (by omega) rfl (Rd.of_owns HO.out)).mono ?_
        rintro e w7 ⟨rfl, hb7⟩
        rw [HCF.out]
        have HB7 := Lib.hid (HB3.out.trans (hb7.mono HB3.out.size))
        clear hb7
        by_cases hll : L.length < i
        · have t3 : decide ((L.length : Int) < (i : Int)) = true := decide_eq_true (by omega)
          go_wp2
          go_ret
          exact ⟨rfl, HB7.out⟩
        · have t3 : decide ((L.length : Int) < (i : Int)) = false := decide_eq_false (by omega)
          obtain rfl : C = false := HFL.out hll
          go_wp2
          go_ret
          exact ⟨rfl, HB7.out⟩
  · go_enter Try.func7, Try.ntmps7
    go_wp2
    go_ret
    exact ⟨rfl, Below.refl _ _⟩

end Go.Proofs.Ytklbjnphfpjgeaa
