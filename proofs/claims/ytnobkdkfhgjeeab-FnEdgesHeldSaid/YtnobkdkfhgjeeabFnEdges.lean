/- The law FnEdgesHeld: its walk. -/
import Derived.Test.YtnobkdkfhgjeeabHoldImpl
import Derived.Test.YtnobkdkfhgjeeabDraw10
import Derived.Lib.QuietBelow
import Derived.BigQuiet
import Derived.IntWalk
namespace Go.Proofs.Ytnobkdkfhgjeeab
open Go.RowKit Go.Sort

theorem mem_putsRaw {h : List Int} {on : Int} {out : Es} {x : Int × Int} : ∀ s, x ∈ putsRaw h on out s → x ∈ out ∨ ∃ j, j < s ∧ x = ((j : Int), on)
  | 0, hx => .inl hx
  | s + 1, hx => by
    unfold putsRaw at hx
    split at hx
    · rcases List.mem_append.1 hx with hx | hx
      · exact (mem_putsRaw s hx).imp id (fun ⟨j, hj, e⟩ => ⟨j, by omega, e⟩)
      · simp only [List.mem_singleton] at hx
        exact .inr ⟨s, by omega, hx⟩
    · exact (mem_putsRaw s hx).imp id (fun ⟨j, hj, e⟩ => ⟨j, by omega, e⟩)
theorem mem_hToR {n : Nat} {out : Es} {t : List OpD} {x : Int × Int} : ∀ k, x ∈ (hToR n out t k).2 → x ∈ out ∨ ∃ j i, j < n ∧ i < k ∧ (t.getD i noOp).kind = 2 ∧ x = ((j : Int), (t.getD i noOp).on)
  | 0, hx => .inl hx
  | k + 1, hx => by
    rw [hToR_snoc] at hx
    simp only at hx
    unfold hOutR at hx
    split at hx
    · next h2 =>
      rcases mem_putsRaw _ hx with hx | ⟨j, hj, e⟩
      · exact (mem_hToR k hx).imp id (fun ⟨j, i, h1, h2, h3⟩ => ⟨j, i, h1, by omega, h3⟩)
      · rw [hToR_held] at hj
        exact .inr ⟨j, k, hj, by omega, h2, e⟩
    · exact (mem_hToR k hx).imp id (fun ⟨j, i, h1, h2, h3⟩ => ⟨j, i, h1, by omega, h3⟩)
theorem mem_rawTo {p : Pg} (hv : progValid p = true) {x : Int × Int} : ∀ i, i ≤ p.threads.length → x ∈ rawTo p i → (0 ≤ x.1 ∧ x.1 < p.sems.length) ∧ 0 ≤ x.2 ∧ x.2 < p.sems.length
  | 0, _, hx => by simp [rawTo] at hx
  | i + 1, hi, hx => by
    rw [rawTo_snoc] at hx
    rcases mem_hToR _ hx with hx | ⟨j, k, h1, h2, h3, rfl⟩
    · exact mem_rawTo hv i (by omega) hx
    · have h4 := (valid_arg hv (valid_op hv (by omega) h2) (.inl h3)).1
      exact ⟨⟨by simp, by simp; exact h1⟩, h4⟩
theorem holdEdges_spec (p : Pg) : SortedE (holdEdges p) ∧ (∀ x ∈ holdEdges p, (0 ≤ x.1 ∧ x.1 < p.sems.length) ∧ 0 ≤ x.2 ∧ x.2 < p.sems.length) ∧ (progValid p = false → holdEdges p = []) ∧ (holdEdges p).length ≤ 96 := by
  unfold holdEdges
  split
  · next h =>
    have hl := hAll_len h p.threads.length
    have h4 := (valid_threads h).2
    rw [hAll_gather] at hl ⊢
    obtain ⟨h1, h2⟩ := gather_spec (rawTo p p.threads.length)
    exact ⟨h1, fun x hx => mem_rawTo h _ (Nat.le_refl _) ((h2 x).1 hx), fun h' => (by rw [h] at h'; cases h'), by omega⟩
  · exact ⟨List.Pairwise.nil, by simp, fun _ => rfl, by simp⟩
theorem sorted_next {l : Es} (h : SortedE l) {i : Nat} (hi : i + 1 < l.length) : ltE (l.getD i (0, 0)) (l.getD (i + 1) (0, 0)) = true := by
  have := List.pairwise_iff_getElem.1 h i (i + 1) (by omega) hi (by omega)
  simpa [List.getD, show i < l.length by omega, hi] using this
theorem getE_mem {l : Es} {i : Nat} (hi : i < l.length) : l.getD i (0, 0) ∈ l := by
  simp [List.getD, hi]

set_option maxRecDepth 100000 in
set_option maxHeartbeats 4000000 in
theorem fnEdgesHeldLaw (a : Option Addr) (n c : Nat) (bs : List Int) (w : World) (hl : bs.length = n) (h1 : Rd w a (bytesV bs)) (hmx : n ≤ maxLen) (hcap : n ≤ c) (hby : ∀ b ∈ bs, 0 ≤ b ∧ b ≤ 255) :
    Calls Try.prog 9 #[.slice a n c] w fun e w' => e = .returned (.bool true) ∧ Below w.heap.size w w' := by
  unfold maxLen at hmx
  have HL := Lib.hid hl
  have HBY := Lib.hid hby
  clear hl hby
  by_cases hn : n ≤ 1048576
  · have hC := Lib.hid (Code13.mk HL.out h1 hcap HBY.out hn)
    clear HL HBY h1
    go_enter Try.func9, Try.ntmps9
    go_wp2_with fail
    refine (drawHoldEdges_any a n c bs w hC.out).mono ?_
    rintro e w1 ⟨v, vs, p, rfl, o1, hb⟩
    have HB := Lib.hid hb
    have HR := Lib.hid o1.own.rd
    have HF := Lib.hid o1.few
    have HZ := Lib.hid (o1.small (by omega))
    clear hb o1 hC
    have bb : Below w1.heap.size w1 (w1.alloc (.cells #[.slice v.s v.ns v.cs, .slice v.g v.ng v.cg, .slice v.b v.nb v.cb, .slice v.r v.nr v.cr, .slice v.t v.nt v.ct] 26)) := (Below.refl _ _).alloc (Nat.le_refl _) _
    have kp : Blk (w1.alloc (.cells #[.slice v.s v.ns v.cs, .slice v.g v.ng v.cg, .slice v.b v.nb v.cb, .slice v.r v.nr v.cr, .slice v.t v.nt v.ct] 26)) w1.heap.size #[.slice v.s v.ns v.cs, .slice v.g v.ng v.cg, .slice v.b v.nb v.cb, .slice v.r v.nr v.cr, .slice v.t v.nt v.ct] 26 := Blk.new _ _ _
    replace HR := Lib.hid (HR.out.below bb)
    replace HB := Lib.hid (HB.out.trans (bb.mono HB.out.size))
    clear bb
    obtain ⟨es, hes⟩ : ∃ es, es = holdEdges p := ⟨_, rfl⟩
    have HSP := Lib.hid (holdEdges_spec p)
    rw [← hes] at HSP
    obtain ⟨N, hN⟩ : ∃ N, es.length = N := ⟨_, rfl⟩
    have hN96 : N ≤ 96 := by rw [← hN]; exact HSP.out.2.2.2
    have HES := Lib.hid hes
    have HN := Lib.hid hN
    clear hes hN
    have ls := Lib.hid HR.out.ls
    have ckp0 := kp.cell 0 rfl
    have ckp1 := kp.cell 1 rfl
    have ckp2 := kp.cell 2 rfl
    have ckp3 := kp.cell 3 rfl
    have ckp4 := kp.cell 4 rfl
    go_wp2_with fail
    refine (implHoldEdges_any v p _ HR.out HZ.out).mono ?_
    rintro e w2 ⟨a1, c1, rfl, ol, hb⟩
    rw [← HES.out] at ol
    rw [← HES.out, HN.out]
    have HL1 := Lib.hid (Rd.of_owns ol)
    clear ol
    replace HR := Lib.hid (HR.out.below hb)
    replace kp := kp.below hb
    replace HB := Lib.hid (HB.out.trans (hb.mono HB.out.size))
    clear hb
    clear ckp0 ckp1 ckp2 ckp3 ckp4
    have ckp0 := kp.cell 0 rfl
    have ckp1 := kp.cell 1 rfl
    have ckp2 := kp.cell 2 rfl
    have ckp3 := kp.cell 3 rfl
    have ckp4 := kp.cell 4 rfl
    go_wp2_with fail
    refine (specHoldEdges_any v p _ HR.out HZ.out).mono ?_
    rintro e w3 ⟨a2, c2, rfl, ol, hc2, hb⟩
    rw [← HES.out] at ol
    rw [← HES.out, HN.out]
    have HL2 := Lib.hid ol
    clear ol hc2
    replace HR := Lib.hid (HR.out.below hb)
    replace HL1 := Lib.hid (HL1.out.below hb)
    replace kp := kp.below hb
    replace HB := Lib.hid (HB.out.trans (hb.mono HB.out.size))
    clear hb
    clear ckp0 ckp1 ckp2 ckp3 ckp4
    have ckp0 := kp.cell 0 rfl
    have ckp1 := kp.cell 1 rfl
    have ckp2 := kp.cell 2 rfl
    have ckp3 := kp.cell 3 rfl
    have ckp4 := kp.cell 4 rfl
    go_wp2_with fail
    refine (implEdges_any a1 a2 N N c1 c2 es es _ (by omega) HN.out HN.out HL1.out HL2.out).mono ?_
    rintro e w4 ⟨rfl, d⟩
    have hb := below_of_drewN (B := w3.heap.size) d
    clear d
    replace HR := Lib.hid (HR.out.below hb)
    replace HL1 := Lib.hid (HL1.out.below hb)
    replace HL2 := Lib.hid (HL2.out.below hb)
    replace kp := kp.below hb
    replace HB := Lib.hid (HB.out.trans (hb.mono HB.out.size))
    clear hb
    clear ckp0 ckp1 ckp2 ckp3 ckp4
    rw [decide_eq_true (rfl : es = es)]
    clear HL2
    have ckp0 := kp.cell 0 rfl
    have ckp1 := kp.cell 1 rfl
    have ckp2 := kp.cell 2 rfl
    have ckp3 := kp.cell 3 rfl
    have ckp4 := kp.cell 4 rfl
    go_wp2
    go_loopw [5] (fun vi wr => ∃ i : Nat, vi = .int .i64 i ∧ i ≤ N ∧ ∃ q, wr = w4.drewN q) (fun vi _ => N - (intOf vi).toNat)
    case atStart => exact ⟨0, rfl, by omega, 0, rfl⟩
    case round =>
      obtain ⟨i, rfl, hi, q, rfl⟩ := hrel
      by_cases hlt : i < N
      · obtain ⟨b, o, rfl, hc⟩ := HL1.out.edge (by have := HN.out; omega)
        obtain ⟨g0, g1⟩ := hc i (by have := HN.out; omega)
        obtain ⟨x, hx⟩ : ∃ x, x = es.getD i (0, 0) := ⟨_, rfl⟩
        rw [← hx] at g0 g1
        obtain ⟨⟨p1, p2⟩, p3, p4⟩ := HSP.out.2.1 x (by rw [hx]; exact getE_mem (by have := HN.out; omega))
        rw [ls.out] at p2 p4
        have t1 : decide (x.1 < 0) = false := decide_eq_false (by omega)
        have t2 : decide (x.2 < 0) = false := decide_eq_false (by omega)
        have t3 : decide ((v.ns : Int) ≤ x.1) = false := decide_eq_false (by omega)
        have t4 : decide ((v.ns : Int) ≤ x.2) = false := decide_eq_false (by omega)
        have HX := Lib.hid hx
        have HC := Lib.hid hc
        clear hx hc p1 p2 p3 p4
        go_wp2
        go_quiet (fail)
        clear t1 t2 t3 t4
        go_wp2
        by_cases h0 : i = 0
        · subst h0
          go_wp2
          go_quiet (fail)
          go_wp2
          go_roundw
          case rel => exact ⟨1, by go_num, by omega, _, rfl⟩
          case measure => simp [intOf]; omega
        · obtain ⟨r, rfl⟩ : ∃ r, i = r + 1 := ⟨i - 1, by omega⟩
          obtain ⟨y, hy⟩ : ∃ y, y = es.getD r (0, 0) := ⟨_, rfl⟩
          obtain ⟨g2, g3⟩ := HC.out r (by have := HN.out; omega)
          rw [← hy] at g2 g3
          have hs := sorted_next HSP.out.1 (i := r) (by have := HN.out; omega)
          rw [← hy, ← HX.out, ltE_iff] at hs
          have i0 : (0 : Int) ≤ (r : Int) := by omega
          have i1 : (r : Int) < (N : Int) := by omega
          have i2 : (r : Int) + 1 < (N : Int) := by omega
          have i3 : decide ((0 : Int) < ((r + 1 : Nat) : Int)) = true := decide_eq_true (by omega)
          have i4 : decide ((0 : Int) < (r : Int) + 1) = true := decide_eq_true (by omega)
          have t1 : decide (x.1 < y.1) = false := decide_eq_false (by omega)
          by_cases he : x.1 = y.1
          · have t2 : (x.1 == y.1) = true := by simpa using he
            have t3 : decide (x.2 ≤ y.2) = false := decide_eq_false (by omega)
            clear hy hs he
            go_wp2
            go_quiet (fail)
            go_wp2
            go_roundw
            case rel => exact ⟨r + 1 + 1, by go_num, by omega, _, rfl⟩
            case measure => simp [intOf]; omega
          · have t2 : (x.1 == y.1) = false := by simpa using he
            clear hy hs he
            go_wp2
            go_quiet (fail)
            go_wp2
            go_roundw
            case rel => exact ⟨r + 1 + 1, by go_num, by omega, _, rfl⟩
            case measure => simp [intOf]; omega
      · obtain rfl : i = N := by omega
        cases hv : progValid p with
        | true =>
          have HV := Lib.hid hv
          clear hv
          go_wp2_with fail
          refine (implProgValid_any v p _ (HR.out.below (below_drewN' _ q)) HZ.out).mono ?_
          rintro e w5 ⟨rfl, hb⟩
          rw [HV.out]
          go_wp2
          go_ret
          exact ⟨rfl, HB.out.trans ((below_drewN' _ q).trans (hb.mono (below_drewN' (B := w4.heap.size) _ q).size) |>.mono HB.out.size)⟩
        | false =>
          have HV := Lib.hid hv
          have hi0 : i = 0 := by rw [← HN.out, HSP.out.2.2.1 hv]; rfl
          have HI := Lib.hid hi0
          have t0 : ((i : Int) == 0) = true := by rw [hi0]; rfl
          clear hv hi0
          go_wp2_with fail
          refine (implProgValid_any v p _ (HR.out.below (below_drewN' _ q)) HZ.out).mono ?_
          rintro e w5 ⟨rfl, hb⟩
          rw [HV.out]
          go_wp2
          go_ret
          exact ⟨rfl, HB.out.trans ((below_drewN' _ q).trans (hb.mono (below_drewN' (B := w4.heap.size) _ q).size) |>.mono HB.out.size)⟩
  · go_enter Try.func9, Try.ntmps9
    go_wp2
    go_ret
    exact ⟨rfl, Below.refl _ _⟩

end Go.Proofs.Ytnobkdkfhgjeeab
