/- An edge is put into edges in order: the reference's l10Put. -/
import Derived.Test.YtnobkdkfhgjeeabEdgeS
import Derived.Test.YtnobkdkfhgjeeabBaseA
import Derived.Deep.Cut
namespace Go.Proofs.Ytnobkdkfhgjeeab
open Go.RowKit

def ltE (e f : Int × Int) : Bool := decide (e.1 < f.1) || (decide (e.1 = f.1) && decide (e.2 < f.2))
def putTo (l : List (Int × Int)) (e : Int × Int) : Nat → List (Int × Int) × Bool
  | 0 => ([], false)
  | i + 1 => ((if (!(putTo l e i).2 && ltE e (l.getD i (0, 0))) = true then (putTo l e i).1 ++ [e] else (putTo l e i).1) ++ [l.getD i (0, 0)], (putTo l e i).2 || ltE e (l.getD i (0, 0)))
def putE (l : List (Int × Int)) (e : Int × Int) : List (Int × Int) :=
  if e ∈ l then l else if (putTo l e l.length).2 = true then (putTo l e l.length).1 else (putTo l e l.length).1 ++ [e]
theorem putTo_len (l : List (Int × Int)) (e : Int × Int) : ∀ i, (putTo l e i).1.length = i + (if (putTo l e i).2 = true then 1 else 0)
  | 0 => by simp [putTo]
  | i + 1 => by
    have h := putTo_len l e i
    unfold putTo
    cases hd : (putTo l e i).2 <;> cases hl : ltE e (l.getD i (0, 0)) <;> simp [hd] at h ⊢ <;> omega
theorem putE_len (l : List (Int × Int)) (e : Int × Int) : (putE l e).length ≤ l.length + 1 := by
  have h := putTo_len l e l.length
  unfold putE
  split
  · omega
  · split
    · next hd => rw [if_pos hd] at h; omega
    · next hd => rw [if_neg hd] at h; simp; omega

/-- '==' on two edges. -/
theorem eql_edge (w : World) (a b c d : Int) : (binOp .eql 61 (.agg #[.int .i64 a, .int .i64 b]) (.agg #[.int .i64 c, .int .i64 d])).run Try.prog w = .ok (.bool (a == c && b == d)) w := by
  have u3 := Try.underlying3
  have a3 := Try.isAgg3
  have z3 := Try.sizeOf3
  have hS : Try.prog.underlying 61 = some (.struct (Try.prog.fieldsOf 61)) := by kernel_rfl
  have hp : Try.prog.stoodInHeld 61 = false := by kernel_rfl
  rw [run_eql_struct, show (10000 : Nat) = 9999 + 1 from rfl, run_equalIn_agg w 9999 _ _ _ hS hp]
  simp only [Program.fieldsOf, Try.underlying61]
  go_simp
  by_cases h1 : a = c <;> by_cases h2 : b = d <;> simp [h1, h2]
theorem guard_eql_edge (w : World) (x y : Operand) (xs ys : Array Value) : (eqGuard .eql 61 x y (.agg xs) (.agg ys)).run Try.prog w = .ok () w :=
  run_eqGuard_agg w .eql _ x y xs ys (by kernel_rfl)
theorem eql_edge_yes (w : World) (a b c d : Int) (h : (a == c && b == d) = true) : (binOp .eql 61 (.agg #[.int .i64 a, .int .i64 b]) (.agg #[.int .i64 c, .int .i64 d])).run Try.prog w = .ok (.bool true) w := by rw [eql_edge, h]
theorem eql_edge_no (w : World) (a b c d : Int) (h : (a == c && b == d) = false) : (binOp .eql 61 (.agg #[.int .i64 a, .int .i64 b]) (.agg #[.int .i64 c, .int .i64 d])).run Try.prog w = .ok (.bool false) w := by rw [eql_edge, h]
theorem edge_eq {e f : Int × Int} : (e.1 == f.1 && e.2 == f.2) = true ↔ e = f := by
  obtain ⟨a, b⟩ := e; obtain ⟨c, d⟩ := f; simp

/-- Some slice that reads as these edges. -/
def PutPost (w : World) (a : Option Addr) (l m : List (Int × Int)) (x : Ending) (w' : World) : Prop := ∃ (a' : Option Addr) (c' : Nat), x = .returned (.slice a' m.length c') ∧ Rd w' a' (edges m) ∧ m.length ≤ c' ∧ Below w.heap.size w w' ∧ ((a' = a ∧ m = l) ∨ ∀ q, rowOf a' = some q → w.heap.size ≤ q)

set_option maxRecDepth 100000 in
set_option maxHeartbeats 4000000 in
theorem l10Put_any (a : Option Addr) (n c : Nat) (l : List (Int × Int)) (e : Int × Int) (w : World) (hn : l.length = n) (hm : n ≤ 1000000) (hnc : n ≤ c) (hr : Rd w a (edges l)) :
    Calls Try.prog 72 #[.slice a n c, .agg #[.int .i64 e.1, .int .i64 e.2]] w (PutPost w a l (putE l e)) := by
  have HN := Lib.hid hn
  have b0 : Below w.heap.size w ((w.alloc (.cells #[.int .i64 e.1, .int .i64 e.2] 61)).alloc (.cells #[] 61)) := ((Below.refl _ _).alloc (Nat.le_refl _) _).alloc (by simp) _
  have k0 : Blk ((w.alloc (.cells #[.int .i64 e.1, .int .i64 e.2] 61)).alloc (.cells #[] 61)) w.heap.size #[.int .i64 e.1, .int .i64 e.2] 61 := (Blk.new _ _ _).alloc _
  have o0 := owns_empty (w.alloc (.cells #[.int .i64 e.1, .int .i64 e.2] 61)) 61 2
  have hz0 : (w.alloc (.cells #[.int .i64 e.1, .int .i64 e.2] 61)).heap.size = w.heap.size + 1 := by simp
  rw [hz0] at o0
  have HK0 := Lib.hid k0
  have HB0 := Lib.hid b0
  have HO0 := Lib.hid o0
  clear hn b0 k0 o0 hz0
  go_enter Try.func72, Try.ntmps72
  go_wp2
  go_loopw [5, 6, 7] (fun v5 v6 v7 wr => ∃ (i : Nat) (b : Option Addr) (cb : Nat), i ≤ n ∧ v7 = .int .i64 i ∧ v6 = .bool (putTo l e i).2 ∧ v5 = .slice b (putTo l e i).1.length cb ∧ Hid (∀ j, j < i → l.getD j (0, 0) ≠ e) ∧ Hid (wr.ownsRow (w.heap.size + 1) 61 2 (.slice b (putTo l e i).1.length cb) (putTo l e i).1.length (edges (putTo l e i).1)) ∧ Hid (Blk wr w.heap.size #[.int .i64 e.1, .int .i64 e.2] 61) ∧ Hid (Below w.heap.size w wr)) (fun _ _ v7 _ => n - (intOf v7).toNat)
  case atStart => exact ⟨0, _, _, Nat.zero_le _, rfl, rfl, rfl, Lib.hid (by omega), HO0, HK0, HB0⟩
  case round =>
    obtain ⟨wo, rfl⟩ : ∃ x, x = wr := ⟨_, rfl⟩
    obtain ⟨i, b, cb, hi, rfl, rfl, rfl, HA, HO, HK, HB⟩ := hrel
    obtain ⟨L, hL⟩ : ∃ L, L = (putTo l e i).1 := ⟨_, rfl⟩
    obtain ⟨d, hd⟩ : ∃ d, d = (putTo l e i).2 := ⟨_, rfl⟩
    rw [← hL] at HO ⊢
    rw [← hd]
    have hLn : L.length ≤ i + 1 := by rw [hL, putTo_len]; split <;> omega
    have HL := Lib.hid hL
    have HD := Lib.hid hd
    clear hL hd
    have e0 := HK.out.cell 0 rfl
    have e1 := HK.out.cell 1 rfl
    have hsz := HB.out.size
    have hkl := HK.out.lt
    by_cases hlt : i < n
    · obtain ⟨bl, ol, ea, hc⟩ := hr.edge (by have := HN.out; omega)
      obtain ⟨gw0, gw1⟩ := hc i (by have := HN.out; omega)
      obtain ⟨f, hf⟩ : ∃ f, f = l.getD i (0, 0) := ⟨_, rfl⟩
      rw [← hf] at gw0 gw1
      have HF := Lib.hid hf
      have HG0 := Lib.hid gw0
      have HG1 := Lib.hid gw1
      have g0 := keepc HB.out gw0
      have g1 := keepc HB.out gw1
      have hiI : (i : Int) < (n : Int) := by omega
      have hi0 : (0 : Int) ≤ (i : Int) := by omega
      clear hc hf gw0 gw1
      subst ea
      by_cases hef : f = e
      · have kq := fun W => eql_edge_yes W f.1 f.2 e.1 e.2 (edge_eq.2 hef)
        have kg := guard_eql_edge
        have HM : Hid (putE l e = l) := Lib.hid (by
          unfold putE
          rw [if_pos (by rw [← hef, HF.out, List.getD_eq_getElem?_getD, List.getElem?_eq_getElem (by have := HN.out; omega)]; simp)])
        clear hef
        go_wp2
        go_quiet (fail)
        go_wp2
        go_ret
        have hbq := below_drewN (Below.refl wo.heap.size wo) nq
        exact ⟨_, c, by rw [HM.out, HN.out]; rfl, by rw [HM.out]; exact (hr.below HB.out).below hbq, by rw [HM.out, HN.out]; exact hnc, HB.out.trans (hbq.mono hsz), .inl ⟨rfl, HM.out⟩⟩
      · have kq := fun W => eql_edge_no W f.1 f.2 e.1 e.2 (by
          cases hq : (f.1 == e.1 && f.2 == e.2) with
          | false => rfl
          | true => exact absurd (edge_eq.1 hq) hef)
        have kg := guard_eql_edge
        have HA2 : Hid (∀ j, j < i + 1 → l.getD j (0, 0) ≠ e) := Lib.hid (fun j hj => by
          by_cases hji : j = i
          · rw [hji, ← HF.out]; exact hef
          · exact HA.out j (by omega))
        clear hef HA
        go_wp2
        go_quiet (fail)
        obtain ⟨W1, hW1⟩ : ∃ W1, W1 = wo.drewN nq := ⟨_, rfl⟩
        have hbq : Below wo.heap.size wo W1 := by rw [hW1]; exact below_drewN (Below.refl _ _) nq
        rw [← hW1]
        clear hW1 kq kg e0 e1 g0 g1
        have HO1 := Lib.hid (owns_below HO.out hbq)
        have HK1 := Lib.hid (HK.out.below hbq)
        have HB1 := Lib.hid (HB.out.trans (hbq.mono hsz))
        clear HO HK HB hbq
        have e0 := HK1.out.cell 0 rfl
        have e1 := HK1.out.cell 1 rfl
        have g0 := keepc HB1.out HG0.out
        have g1 := keepc HB1.out HG1.out
        have hnx : ∀ (x : Bool), (!d && ltE e f) = x → (putTo l e (i + 1)) = ((if x = true then L ++ [e] else L) ++ [f], d || ltE e f) := by
          intro x hx
          show ((if (!(putTo l e i).2 && ltE e (l.getD i (0, 0))) = true then (putTo l e i).1 ++ [e] else (putTo l e i).1) ++ [l.getD i (0, 0)], (putTo l e i).2 || ltE e (l.getD i (0, 0))) = _
          rw [← HF.out, ← HL.out, ← HD.out, hx]
        have HNX := Lib.hid hnx
        clear hnx
        cases d with
        | true =>
          have HDL : Hid ((!true && ltE e f) = false) := Lib.hid rfl
          have HX : Hid (ltE e f = ltE e f) := Lib.hid rfl
          go_wp2
          go_quiet (fail)
          obtain ⟨W2, hW2⟩ : ∃ W2, W2 = W1.drewN nq := ⟨_, rfl⟩
          have hbq : Below W1.heap.size W1 W2 := by rw [hW2]; exact below_drewN (Below.refl _ _) nq
          rw [← hW2]
          clear hW2 e0 e1 g0 g1
          have hown := owns_below HO1.out hbq
          have HK2 := Lib.hid (HK1.out.below hbq)
          have HB2 := Lib.hid (HB1.out.trans (hbq.mono HB1.out.size))
          have hS2 : w.heap.size + 1 ≤ W2.heap.size := HK2.out.lt
          clear HO1 HK1 HB1 hbq
          have ONEe : Hid (∀ u ∈ edge e, u.oneCell' = true) := Lib.hid (by intro u hu; simp only [edge, List.mem_cons, List.not_mem_nil, or_false] at hu; rcases hu with rfl | rfl <;> rfl)
          have ONEf : Hid (∀ u ∈ edge f, u.oneCell' = true) := Lib.hid (by intro u hu; simp only [edge, List.mem_cons, List.not_mem_nil, or_false] at hu; rcases hu with rfl | rfl <;> rfl)
          have e0 := HK2.out.cell 0 rfl
          have e1 := HK2.out.cell 1 rfl
          have g0 := keepc HB2.out HG0.out
          have g1 := keepc HB2.out HG1.out
          go_wp2_with (at_builtin; refine wpList_append_sl (m := 1) (cm := 1) (news := edge f) rfl (.tmp 58) (.tmp 63) 54 rfl Try.underlying54 info_edge rfl (by decide) rfl hown rfl rfl rfl ONEf.out (by omega) (by decide) hS2 ?_; intro b5 c5 w5 hown5 hgr5; have HW5 := Lib.hid hown; clear hown)
          clear e0 e1 g0 g1
          have hrow : ∀ k, rowOf b = some k → w.heap.size + 1 ≤ k := fun k hk => (owns_row HW5.out k hk).1
          have hsz5 := hgr5.size
          have HK5 := Lib.hid (HK2.out.grown hgr5 (fun h => by have := hrow _ h; omega))
          have HB5 := Lib.hid (HB2.out.trans (below_of_grown hgr5 (by omega) (fun k hk => by have := hrow k hk; omega)))
          have ho5 : w5.ownsRow (w.heap.size + 1) 61 2 (.slice b5 (L.length + 1) c5) (L.length + 1) (edges (L ++ [f])) := by simpa [edges] using hown5
          have hS5 : w.heap.size + 1 ≤ w5.heap.size := HK5.out.lt
          clear hown5 hgr5 HW5 hrow hsz5
          have hN5 := HNX.out false HDL.out
          have hl5 : (L ++ [f]).length = L.length + 1 := by simp
          go_roundw
          case rel =>
            refine ⟨i + 1, b5, c5, by omega, by go_num, ?_, ?_, HA2, Lib.hid ?_, HK5, HB5⟩
            · rw [hN5]; first | rfl | simp [HX.out]
            · rw [hN5]; simp
            · rw [hN5]; simpa using ho5
          case measure => simp [intOf]; omega
        | false =>
          by_cases h1 : e.1 < f.1
          · have t1 : decide (e.1 < f.1) = true := decide_eq_true h1
            have HX : Hid (ltE e f = true) := Lib.hid (by unfold ltE; simp [h1])
            have HDL : Hid ((!false && ltE e f) = true) := Lib.hid (by rw [HX.out]; rfl)
            clear h1
            go_wp2
            go_quiet (fail)
            obtain ⟨W2, hW2⟩ : ∃ W2, W2 = W1.drewN nq := ⟨_, rfl⟩
            have hbq : Below W1.heap.size W1 W2 := by rw [hW2]; exact below_drewN (Below.refl _ _) nq
            rw [← hW2]
            clear hW2 e0 e1 g0 g1
            have hown := owns_below HO1.out hbq
            have HK2 := Lib.hid (HK1.out.below hbq)
            have HB2 := Lib.hid (HB1.out.trans (hbq.mono HB1.out.size))
            have hS2 : w.heap.size + 1 ≤ W2.heap.size := HK2.out.lt
            clear HO1 HK1 HB1 hbq
            have ONEe : Hid (∀ u ∈ edge e, u.oneCell' = true) := Lib.hid (by intro u hu; simp only [edge, List.mem_cons, List.not_mem_nil, or_false] at hu; rcases hu with rfl | rfl <;> rfl)
            have ONEf : Hid (∀ u ∈ edge f, u.oneCell' = true) := Lib.hid (by intro u hu; simp only [edge, List.mem_cons, List.not_mem_nil, or_false] at hu; rcases hu with rfl | rfl <;> rfl)
            have e0 := HK2.out.cell 0 rfl
            have e1 := HK2.out.cell 1 rfl
            have g0 := keepc HB2.out HG0.out
            have g1 := keepc HB2.out HG1.out
            go_upto_region 11 with (at_builtin; refine wpList_append_sl (m := 1) (cm := 1) (news := edge e) rfl (.tmp 54) (.tmp 56) 54 rfl Try.underlying54 info_edge rfl (by decide) rfl hown rfl rfl rfl ONEe.out (by omega) (by decide) hS2 ?_; intro b4 c4 w4 hown4 hgr4; have HW4 := Lib.hid hown; clear hown)
            clear e0 e1 g0 g1
            have hrow : ∀ k, rowOf b = some k → w.heap.size + 1 ≤ k := fun k hk => (owns_row HW4.out k hk).1
            have hsz4 := hgr4.size
            have HK4 := Lib.hid (HK2.out.grown hgr4 (fun h => by have := hrow _ h; omega))
            have HB4 := Lib.hid (HB2.out.trans (below_of_grown hgr4 (by omega) (fun k hk => by have := hrow k hk; omega)))
            have ho4 : w4.ownsRow (w.heap.size + 1) 61 2 (.slice b4 (L.length + 1) c4) (L.length + 1) (edges (L ++ [e])) := by simpa [edges] using hown4
            have hS4 : w.heap.size + 1 ≤ w4.heap.size := HK4.out.lt
            clear hown4 hgr4 HW4 hrow hsz4
            have e0 := HK4.out.cell 0 rfl
            have e1 := HK4.out.cell 1 rfl
            have g0 := keepc HB4.out HG0.out
            have g1 := keepc HB4.out HG1.out
            go_wp2_with (at_builtin; refine wpList_append_sl (m := 1) (cm := 1) (news := edge f) rfl (.tmp 58) (.tmp 63) 54 rfl Try.underlying54 info_edge rfl (by decide) rfl ho4 rfl rfl rfl ONEf.out (by omega) (by decide) hS4 ?_; intro b5 c5 w5 hown5 hgr5; have HW5 := Lib.hid ho4; clear ho4)
            clear e0 e1 g0 g1
            have hrow : ∀ k, rowOf b4 = some k → w.heap.size + 1 ≤ k := fun k hk => (owns_row HW5.out k hk).1
            have hsz5 := hgr5.size
            have HK5 := Lib.hid (HK4.out.grown hgr5 (fun h => by have := hrow _ h; omega))
            have HB5 := Lib.hid (HB4.out.trans (below_of_grown hgr5 (by omega) (fun k hk => by have := hrow k hk; omega)))
            have ho5 : w5.ownsRow (w.heap.size + 1) 61 2 (.slice b5 (L.length + 1 + 1) c5) (L.length + 1 + 1) (edges ((L ++ [e]) ++ [f])) := by simpa [edges] using hown5
            have hS5 : w.heap.size + 1 ≤ w5.heap.size := HK5.out.lt
            clear hown5 hgr5 HW5 hrow hsz5
            have hN5 := HNX.out true HDL.out
            have hl5 : ((L ++ [e]) ++ [f]).length = L.length + 1 + 1 := by simp
            go_roundw
            case rel =>
              refine ⟨i + 1, b5, c5, by omega, by go_num, ?_, ?_, HA2, Lib.hid ?_, HK5, HB5⟩
              · rw [hN5]; first | rfl | simp [HX.out]
              · rw [hN5]; simp
              · rw [hN5]; simpa using ho5
            case measure => simp [intOf]; omega
          · have t1 : decide (e.1 < f.1) = false := decide_eq_false h1
            by_cases h2 : e.1 = f.1
            · have t2 : (e.1 == f.1) = true := by simpa using h2
              by_cases h3 : e.2 < f.2
              · have t3 : decide (e.2 < f.2) = true := decide_eq_true h3
                have HX : Hid (ltE e f = true) := Lib.hid (by unfold ltE; simp [h2, h3])
                have HDL : Hid ((!false && ltE e f) = true) := Lib.hid (by rw [HX.out]; rfl)
                clear h1 h2 h3
                go_wp2
                go_quiet (fail)
                obtain ⟨W2, hW2⟩ : ∃ W2, W2 = W1.drewN nq := ⟨_, rfl⟩
                have hbq : Below W1.heap.size W1 W2 := by rw [hW2]; exact below_drewN (Below.refl _ _) nq
                rw [← hW2]
                clear hW2 e0 e1 g0 g1
                have hown := owns_below HO1.out hbq
                have HK2 := Lib.hid (HK1.out.below hbq)
                have HB2 := Lib.hid (HB1.out.trans (hbq.mono HB1.out.size))
                have hS2 : w.heap.size + 1 ≤ W2.heap.size := HK2.out.lt
                clear HO1 HK1 HB1 hbq
                have ONEe : Hid (∀ u ∈ edge e, u.oneCell' = true) := Lib.hid (by intro u hu; simp only [edge, List.mem_cons, List.not_mem_nil, or_false] at hu; rcases hu with rfl | rfl <;> rfl)
                have ONEf : Hid (∀ u ∈ edge f, u.oneCell' = true) := Lib.hid (by intro u hu; simp only [edge, List.mem_cons, List.not_mem_nil, or_false] at hu; rcases hu with rfl | rfl <;> rfl)
                have e0 := HK2.out.cell 0 rfl
                have e1 := HK2.out.cell 1 rfl
                have g0 := keepc HB2.out HG0.out
                have g1 := keepc HB2.out HG1.out
                go_upto_region 11 with (at_builtin; refine wpList_append_sl (m := 1) (cm := 1) (news := edge e) rfl (.tmp 54) (.tmp 56) 54 rfl Try.underlying54 info_edge rfl (by decide) rfl hown rfl rfl rfl ONEe.out (by omega) (by decide) hS2 ?_; intro b4 c4 w4 hown4 hgr4; have HW4 := Lib.hid hown; clear hown)
                clear e0 e1 g0 g1
                have hrow : ∀ k, rowOf b = some k → w.heap.size + 1 ≤ k := fun k hk => (owns_row HW4.out k hk).1
                have hsz4 := hgr4.size
                have HK4 := Lib.hid (HK2.out.grown hgr4 (fun h => by have := hrow _ h; omega))
                have HB4 := Lib.hid (HB2.out.trans (below_of_grown hgr4 (by omega) (fun k hk => by have := hrow k hk; omega)))
                have ho4 : w4.ownsRow (w.heap.size + 1) 61 2 (.slice b4 (L.length + 1) c4) (L.length + 1) (edges (L ++ [e])) := by simpa [edges] using hown4
                have hS4 : w.heap.size + 1 ≤ w4.heap.size := HK4.out.lt
                clear hown4 hgr4 HW4 hrow hsz4
                have e0 := HK4.out.cell 0 rfl
                have e1 := HK4.out.cell 1 rfl
                have g0 := keepc HB4.out HG0.out
                have g1 := keepc HB4.out HG1.out
                go_wp2_with (at_builtin; refine wpList_append_sl (m := 1) (cm := 1) (news := edge f) rfl (.tmp 58) (.tmp 63) 54 rfl Try.underlying54 info_edge rfl (by decide) rfl ho4 rfl rfl rfl ONEf.out (by omega) (by decide) hS4 ?_; intro b5 c5 w5 hown5 hgr5; have HW5 := Lib.hid ho4; clear ho4)
                clear e0 e1 g0 g1
                have hrow : ∀ k, rowOf b4 = some k → w.heap.size + 1 ≤ k := fun k hk => (owns_row HW5.out k hk).1
                have hsz5 := hgr5.size
                have HK5 := Lib.hid (HK4.out.grown hgr5 (fun h => by have := hrow _ h; omega))
                have HB5 := Lib.hid (HB4.out.trans (below_of_grown hgr5 (by omega) (fun k hk => by have := hrow k hk; omega)))
                have ho5 : w5.ownsRow (w.heap.size + 1) 61 2 (.slice b5 (L.length + 1 + 1) c5) (L.length + 1 + 1) (edges ((L ++ [e]) ++ [f])) := by simpa [edges] using hown5
                have hS5 : w.heap.size + 1 ≤ w5.heap.size := HK5.out.lt
                clear hown5 hgr5 HW5 hrow hsz5
                have hN5 := HNX.out true HDL.out
                have hl5 : ((L ++ [e]) ++ [f]).length = L.length + 1 + 1 := by simp
                go_roundw
                case rel =>
                  refine ⟨i + 1, b5, c5, by omega, by go_num, ?_, ?_, HA2, Lib.hid ?_, HK5, HB5⟩
                  · rw [hN5]; first | rfl | simp [HX.out]
                  · rw [hN5]; simp
                  · rw [hN5]; simpa using ho5
                case measure => simp [intOf]; omega
              · have t3 : decide (e.2 < f.2) = false := decide_eq_false h3
                have HX : Hid (ltE e f = false) := Lib.hid (by unfold ltE; simp [h2, h3])
                have HDL : Hid ((!false && ltE e f) = false) := Lib.hid (by rw [HX.out]; rfl)
                clear h1 h2 h3
                go_wp2
                go_quiet (fail)
                obtain ⟨W2, hW2⟩ : ∃ W2, W2 = W1.drewN nq := ⟨_, rfl⟩
                have hbq : Below W1.heap.size W1 W2 := by rw [hW2]; exact below_drewN (Below.refl _ _) nq
                rw [← hW2]
                clear hW2 e0 e1 g0 g1
                have hown := owns_below HO1.out hbq
                have HK2 := Lib.hid (HK1.out.below hbq)
                have HB2 := Lib.hid (HB1.out.trans (hbq.mono HB1.out.size))
                have hS2 : w.heap.size + 1 ≤ W2.heap.size := HK2.out.lt
                clear HO1 HK1 HB1 hbq
                have ONEe : Hid (∀ u ∈ edge e, u.oneCell' = true) := Lib.hid (by intro u hu; simp only [edge, List.mem_cons, List.not_mem_nil, or_false] at hu; rcases hu with rfl | rfl <;> rfl)
                have ONEf : Hid (∀ u ∈ edge f, u.oneCell' = true) := Lib.hid (by intro u hu; simp only [edge, List.mem_cons, List.not_mem_nil, or_false] at hu; rcases hu with rfl | rfl <;> rfl)
                have e0 := HK2.out.cell 0 rfl
                have e1 := HK2.out.cell 1 rfl
                have g0 := keepc HB2.out HG0.out
                have g1 := keepc HB2.out HG1.out
                go_wp2_with (at_builtin; refine wpList_append_sl (m := 1) (cm := 1) (news := edge f) rfl (.tmp 58) (.tmp 63) 54 rfl Try.underlying54 info_edge rfl (by decide) rfl hown rfl rfl rfl ONEf.out (by omega) (by decide) hS2 ?_; intro b5 c5 w5 hown5 hgr5; have HW5 := Lib.hid hown; clear hown)
                clear e0 e1 g0 g1
                have hrow : ∀ k, rowOf b = some k → w.heap.size + 1 ≤ k := fun k hk => (owns_row HW5.out k hk).1
                have hsz5 := hgr5.size
                have HK5 := Lib.hid (HK2.out.grown hgr5 (fun h => by have := hrow _ h; omega))
                have HB5 := Lib.hid (HB2.out.trans (below_of_grown hgr5 (by omega) (fun k hk => by have := hrow k hk; omega)))
                have ho5 : w5.ownsRow (w.heap.size + 1) 61 2 (.slice b5 (L.length + 1) c5) (L.length + 1) (edges (L ++ [f])) := by simpa [edges] using hown5
                have hS5 : w.heap.size + 1 ≤ w5.heap.size := HK5.out.lt
                clear hown5 hgr5 HW5 hrow hsz5
                have hN5 := HNX.out false HDL.out
                have hl5 : (L ++ [f]).length = L.length + 1 := by simp
                go_roundw
                case rel =>
                  refine ⟨i + 1, b5, c5, by omega, by go_num, ?_, ?_, HA2, Lib.hid ?_, HK5, HB5⟩
                  · rw [hN5]; first | rfl | simp [HX.out]
                  · rw [hN5]; simp
                  · rw [hN5]; simpa using ho5
                case measure => simp [intOf]; omega
            · have t2 : (e.1 == f.1) = false := by simpa using h2
              have HX : Hid (ltE e f = false) := Lib.hid (by unfold ltE; simp [h1, h2])
              have HDL : Hid ((!false && ltE e f) = false) := Lib.hid (by rw [HX.out]; rfl)
              clear h1 h2
              go_wp2
              go_quiet (fail)
              obtain ⟨W2, hW2⟩ : ∃ W2, W2 = W1.drewN nq := ⟨_, rfl⟩
              have hbq : Below W1.heap.size W1 W2 := by rw [hW2]; exact below_drewN (Below.refl _ _) nq
              rw [← hW2]
              clear hW2 e0 e1 g0 g1
              have hown := owns_below HO1.out hbq
              have HK2 := Lib.hid (HK1.out.below hbq)
              have HB2 := Lib.hid (HB1.out.trans (hbq.mono HB1.out.size))
              have hS2 : w.heap.size + 1 ≤ W2.heap.size := HK2.out.lt
              clear HO1 HK1 HB1 hbq
              have ONEe : Hid (∀ u ∈ edge e, u.oneCell' = true) := Lib.hid (by intro u hu; simp only [edge, List.mem_cons, List.not_mem_nil, or_false] at hu; rcases hu with rfl | rfl <;> rfl)
              have ONEf : Hid (∀ u ∈ edge f, u.oneCell' = true) := Lib.hid (by intro u hu; simp only [edge, List.mem_cons, List.not_mem_nil, or_false] at hu; rcases hu with rfl | rfl <;> rfl)
              have e0 := HK2.out.cell 0 rfl
              have e1 := HK2.out.cell 1 rfl
              have g0 := keepc HB2.out HG0.out
              have g1 := keepc HB2.out HG1.out
              go_wp2_with (at_builtin; refine wpList_append_sl (m := 1) (cm := 1) (news := edge f) rfl (.tmp 58) (.tmp 63) 54 rfl Try.underlying54 info_edge rfl (by decide) rfl hown rfl rfl rfl ONEf.out (by omega) (by decide) hS2 ?_; intro b5 c5 w5 hown5 hgr5; have HW5 := Lib.hid hown; clear hown)
              clear e0 e1 g0 g1
              have hrow : ∀ k, rowOf b = some k → w.heap.size + 1 ≤ k := fun k hk => (owns_row HW5.out k hk).1
              have hsz5 := hgr5.size
              have HK5 := Lib.hid (HK2.out.grown hgr5 (fun h => by have := hrow _ h; omega))
              have HB5 := Lib.hid (HB2.out.trans (below_of_grown hgr5 (by omega) (fun k hk => by have := hrow k hk; omega)))
              have ho5 : w5.ownsRow (w.heap.size + 1) 61 2 (.slice b5 (L.length + 1) c5) (L.length + 1) (edges (L ++ [f])) := by simpa [edges] using hown5
              have hS5 : w.heap.size + 1 ≤ w5.heap.size := HK5.out.lt
              clear hown5 hgr5 HW5 hrow hsz5
              have hN5 := HNX.out false HDL.out
              have hl5 : (L ++ [f]).length = L.length + 1 := by simp
              go_roundw
              case rel =>
                refine ⟨i + 1, b5, c5, by omega, by go_num, ?_, ?_, HA2, Lib.hid ?_, HK5, HB5⟩
                · rw [hN5]; first | rfl | simp [HX.out]
                · rw [hN5]; simp
                · rw [hN5]; simpa using ho5
              case measure => simp [intOf]; omega
    · obtain rfl : i = n := by omega
      have hne : e ∉ l := by
        intro hm
        obtain ⟨j, hj, he⟩ := List.mem_iff_getElem.1 hm
        exact HA.out j (by have := HN.out; omega) (by simp [List.getD, hj, he])
      have HP : Hid (putE l e = if d = true then L else L ++ [e]) := Lib.hid (by unfold putE; rw [if_neg hne, HN.out, ← HL.out, ← HD.out])
      clear hne
      cases d with
      | true =>
        have HP1 : Hid (putE l e = L) := Lib.hid (by rw [HP.out]; rfl)
        clear HP
        go_wp2
        go_ret
        exact ⟨b, cb, by rw [HP1.out]; rfl, by rw [HP1.out]; exact Rd.of_owns HO.out, by rw [HP1.out]; exact (owns_cap HO.out).1, HB.out, .inr (fun q hq => by have := (owns_row HO.out q hq).1; omega)⟩
      | false =>
        have HP1 : Hid (putE l e = L ++ [e]) := Lib.hid (by rw [HP.out]; rfl)
        clear HP
        have ONEe : Hid (∀ u ∈ edge e, u.oneCell' = true) := Lib.hid (by intro u hu; simp only [edge, List.mem_cons, List.not_mem_nil, or_false] at hu; rcases hu with rfl | rfl <;> rfl)
        have hown := HO.out
        have hS2 : w.heap.size + 1 ≤ wo.heap.size := by omega
        go_wp2_with (at_builtin; refine wpList_append_sl (m := 1) (cm := 1) (news := edge e) rfl (.tmp 67) (.tmp 69) 54 rfl Try.underlying54 info_edge rfl (by decide) rfl hown rfl rfl rfl ONEe.out (by omega) (by decide) hS2 ?_; intro b4 c4 w4 hown4 hgr4; clear hown)
        go_ret
        have h4 : w4.ownsRow (w.heap.size + 1) 61 2 (.slice b4 (L.length + 1) c4) (L.length + 1) (edges (L ++ [e])) := by simpa [edges] using hown4
        exact ⟨b4, c4, by rw [HP1.out, List.length_append]; rfl, by rw [HP1.out]; exact Rd.of_owns h4, by rw [HP1.out]; simpa using (owns_cap h4).1, HB.out.trans (below_of_grown hgr4 (by omega) (fun k hk => by have := (owns_row HO.out k hk).1; omega)), .inr (fun q hq => by have := (owns_row h4 q hq).1; omega)⟩

end Go.Proofs.Ytnobkdkfhgjeeab
