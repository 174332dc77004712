/- The edges from what is held to what is taken: the reference's HoldEdges. -/
import Derived.Test.YtnobkdkfhgjeeabEdgePut
import Derived.Test.YtnobkdkfhgjeeabBaseB
import Derived.StillTailTactics
namespace Go.Proofs.Ytnobkdkfhgjeeab
open Go.RowKit

theorem grown_set1 (w : World) (G j : Nat) (x : Value) : w.grownBy (w.setCell ⟨G, j, none⟩ x) (some G) := ⟨rfl, rfl, rfl, by simp, fun i _ hi => Below.heap_setCell _ _ _ _ (fun e => hi (by rw [e]))⟩
abbrev Es := List (Int × Int)
def hStep (h : List Int) (o : OpD) : List Int :=
  if o.kind = 2 then h.set o.on.toNat (h.getD o.on.toNat 0 + o.arg) else if o.kind = 3 then h.set o.on.toNat (h.getD o.on.toNat 0 - o.arg) else h
def putsTo (h : List Int) (on : Int) (out : Es) : Nat → Es
  | 0 => out
  | s + 1 => if 0 < h.getD s 0 then putE (putsTo h on out s) ((s : Int), on) else putsTo h on out s
def hOut (h : List Int) (o : OpD) (out : Es) : Es := if o.kind = 2 then putsTo h o.on out h.length else out
def hTo (n : Nat) (out : Es) (t : List OpD) : Nat → List Int × Es
  | 0 => (List.replicate n 0, out)
  | k + 1 => (hStep (hTo n out t k).1 (t.getD k noOp), hOut (hTo n out t k).1 (t.getD k noOp) (hTo n out t k).2)
def hAll (p : Pg) : Nat → Es
  | 0 => []
  | i + 1 => (hTo p.sems.length (hAll p i) (p.threads.getD i []) (p.threads.getD i []).length).2
def holdEdges (p : Pg) : Es := if progValid p = true then hAll p p.threads.length else []
theorem putsTo_len (h : List Int) (on : Int) (out : Es) : ∀ s, (putsTo h on out s).length ≤ out.length + s
  | 0 => Nat.le_refl _
  | s + 1 => by
    have := putsTo_len h on out s
    unfold putsTo
    split
    · have := putE_len (putsTo h on out s) ((s : Int), on); omega
    · omega
theorem hStep_len (h : List Int) (o : OpD) : (hStep h o).length = h.length := by
  unfold hStep; split
  · simp
  · split <;> simp
theorem hTo_held (n : Nat) (out : Es) (t : List OpD) : ∀ k, (hTo n out t k).1.length = n
  | 0 => by simp [hTo]
  | k + 1 => by
    show (hStep _ _).length = n
    rw [hStep_len, hTo_held n out t k]
theorem hTo_len (n : Nat) (out : Es) (t : List OpD) : ∀ k, (hTo n out t k).2.length ≤ out.length + k * n
  | 0 => by simp [hTo]
  | k + 1 => by
    have h1 := hTo_len n out t k
    have h2 := hTo_held n out t k
    show (hOut _ _ _).length ≤ _
    unfold hOut
    split
    · have := putsTo_len (hTo n out t k).1 (t.getD k noOp).on (hTo n out t k).2 (hTo n out t k).1.length
      rw [Nat.add_mul]; omega
    · rw [Nat.add_mul]; omega
theorem RdP.thr0 {w : World} {v : PV} {p : Pg} (h : RdP w v p) (hne : 0 < p.threads.length) : ∃ b o, v.t = some ⟨b, o, none⟩ ∧ ∀ i, i < p.threads.length → ∃ a' c', w.cell? ⟨b, o + i, none⟩ = some (.slice a' (p.threads.getD i []).length c') ∧ Rd w a' (opsV (p.threads.getD i [])) := by
  obtain ⟨vs, hT⟩ := h.rt
  exact hT.thread hne
theorem valid_sems {p : Pg} (h : progValid p = true) : p.sems.length ≤ 3 ∧ ∀ t ∈ p.threads, t.length ≤ 8 := by
  unfold progValid at h
  simp only [Bool.and_eq_true, decide_eq_true_eq, List.all_eq_true] at h
  refine ⟨?_, fun t ht => (h.2 t ht).1⟩
  have hw := h.1.1.1.1.1.1
  unfold within at hw
  simp only [Bool.and_eq_true, decide_eq_true_eq] at hw
  exact hw.1
theorem thr_8 {p : Pg} (h : progValid p = true) (i : Nat) : (p.threads.getD i []).length ≤ 8 := by
  by_cases hi : i < p.threads.length
  · rw [List.getD_eq_getElem?_getD, List.getElem?_eq_getElem hi]; exact (valid_sems h).2 _ (List.getElem_mem hi)
  · rw [List.getD_eq_getElem?_getD, List.getElem?_eq_none (Nat.le_of_not_lt hi)]; simp
theorem hAll_len {p : Pg} (h : progValid p = true) : ∀ i, (hAll p i).length ≤ i * 24
  | 0 => by simp [hAll]
  | i + 1 => by
    have h1 := hAll_len h i
    have h2 := hTo_len p.sems.length (hAll p i) (p.threads.getD i []) (p.threads.getD i []).length
    have h3 := (valid_sems h).1
    have h4 := thr_8 h i
    have h5 : (p.threads.getD i []).length * p.sems.length ≤ 8 * 3 := Nat.mul_le_mul h4 h3
    show (hTo _ _ _ _).2.length ≤ _
    omega
/-- The edges' row lies apart from block G. -/
def FarE (b : Option Addr) (m : Es) (G : Nat) : Prop := (edges m).length = 0 ∨ rowOf b ≠ some G
theorem FarE.of_rd {w : World} {b : Option Addr} {m : Es} {G : Nat} (h : Rd w b (edges m)) (hG : w.heap.size ≤ G) : FarE b m G := by
  rcases h with h0 | ⟨x, o, rfl, hc⟩
  · exact .inl (by rw [h0]; rfl)
  · by_cases h0 : (edges m).length = 0
    · exact .inl h0
    · refine .inr (fun e => ?_)
      have hx := World.block_lt_of_cell? w _ (hc 0 (by omega))
      simp only [rowOf, Option.some.injEq] at e
      have : x < w.heap.size := hx
      omega
theorem FarE.put {w : World} {b b' : Option Addr} {l m : Es} {G : Nat} (h : FarE b l G) (hG : G < w.heap.size) (k : (b' = b ∧ m = l) ∨ ∀ q, rowOf b' = some q → w.heap.size ≤ q) : FarE b' m G := by
  rcases k with ⟨rfl, rfl⟩ | k
  · exact h
  · exact .inr (fun e => by have := k G e; omega)
/-- Some slice that reads as these edges. -/
def HoldPost (w : World) (m : Es) (x : Ending) (w' : World) : Prop := ∃ (a' : Option Addr) (c' : Nat), x = .returned (.slice a' m.length c') ∧ Rd w' a' (edges m) ∧ m.length ≤ c' ∧ Below w.heap.size w w'

set_option maxRecDepth 100000 in
set_option maxHeartbeats 8000000 in
theorem specHoldEdges_any (v : PV) (p : Pg) (w : World) (hr : RdP w v p) (hz : Small v p) :
    Calls Try.prog 30 #[.agg #[.slice v.s v.ns v.cs, .slice v.g v.ng v.cg, .slice v.b v.nb v.cb, .slice v.r v.nr v.cr, .slice v.t v.nt v.ct]] w (HoldPost w (holdEdges p)) := by
  have HZ := Lib.hid hz
  have z5 : v.nt ≤ 1048576 := hz.lt
  have zs : v.ns ≤ 1048576 := hz.ls
  have ls := Lib.hid hr.ls
  have lt := Lib.hid hr.lt
  have B0 : Below w.heap.size w ((w.alloc (.cells #[.slice v.s v.ns v.cs, .slice v.g v.ng v.cg, .slice v.b v.nb v.cb, .slice v.r v.nr v.cr, .slice v.t v.nt v.ct] 26)).alloc (.cells #[] 61)) := ((Below.refl _ _).alloc (Nat.le_refl _) _).alloc (by simp) _
  have k0 : Blk ((w.alloc (.cells #[.slice v.s v.ns v.cs, .slice v.g v.ng v.cg, .slice v.b v.nb v.cb, .slice v.r v.nr v.cr, .slice v.t v.nt v.ct] 26)).alloc (.cells #[] 61)) w.heap.size #[.slice v.s v.ns v.cs, .slice v.g v.ng v.cg, .slice v.b v.nb v.cb, .slice v.r v.nr v.cr, .slice v.t v.nt v.ct] 26 := (Blk.new _ _ _).alloc _
  obtain ⟨W0, hW0⟩ : ∃ W0 : World, W0 = (w.alloc (.cells #[.slice v.s v.ns v.cs, .slice v.g v.ng v.cg, .slice v.b v.nb v.cb, .slice v.r v.nr v.cr, .slice v.t v.nt v.ct] 26)).alloc (.cells #[] 61) := ⟨_, rfl⟩
  rw [← hW0] at B0 k0
  have HR := Lib.hid (hr.below B0)
  have HK := Lib.hid k0
  have HB := Lib.hid B0
  have HW0 := Lib.hid hW0
  clear hz hr B0 k0 hW0
  obtain ⟨i0, hi0, hz0, hz1, hz2⟩ := info_parts info_int
  go_enter Try.func30, Try.ntmps30
  go_wp2
  rw [← HW0.out]
  clear HW0
  cases hv : progValid p with
  | false =>
    have HM : Hid (holdEdges p = []) := Lib.hid (by unfold holdEdges; rw [if_neg (by rw [hv]; decide)])
    have HV := Lib.hid hv
    clear hv
    go_loopw [3, 4] (fun v3 v4 wr => v3 = .slice (some ⟨w.heap.size + 1, 0, none⟩) 0 0 ∧ v4 = .int .i64 0 ∧ wr = W0) (fun _ _ _ => 0)
    case atStart => exact ⟨rfl, rfl, rfl⟩
    case round =>
      obtain ⟨rfl, rfl, rfl⟩ := hrel
      have q0 := HK.out.cell 0 rfl
      have q1 := HK.out.cell 1 rfl
      have q2 := HK.out.cell 2 rfl
      have q3 := HK.out.cell 3 rfl
      have q4 := HK.out.cell 4 rfl
      by_cases h0 : 0 < v.nt
      all_goals
        go_wp2_with (go_at_call 71; refine (specProgValid_any v p _ HR.out HZ.out).mono ?_; rintro e w1 ⟨rfl, hb⟩; rw [HV.out])
        go_ret
        have BX := HB.out
        exact ⟨some ⟨w.heap.size + 1, 0, none⟩, 0, by rw [HM.out]; rfl, by rw [HM.out]; exact .inl rfl, by rw [HM.out]; exact Nat.le_refl 0, by first | exact BX.trans (Below.mono (by assumption) BX.size) | exact BX⟩
  | true =>
    have HV := Lib.hid hv
    have hln := (valid_threads hv)
    have hn3 := (valid_sems hv).1
    have HVO : Hid (∀ i k, i < p.threads.length → k < (p.threads.getD i []).length → opValid p ((p.threads.getD i []).getD k noOp) = true) := Lib.hid (fun i k hi hk => valid_op hv hi hk)
    have v4' : v.nt ≤ 4 := by have := lt.out; omega
    have vs3 : v.ns ≤ 3 := by have := ls.out; omega
    obtain ⟨b1, o1, ea, g1'⟩ := (RdP.thr0 HR.out (by have := lt.out; omega))
    have HEA := Lib.hid ea
    have G1 := Lib.hid g1'
    clear hv ea g1'
    go_loopw [3, 4] (fun v3 v4 wr => ∃ (i : Nat) (bo : Option Addr) (cb : Nat), i ≤ v.nt ∧ v4 = .int .i64 i ∧ v3 = .slice bo (hAll p i).length cb ∧ (hAll p i).length ≤ cb ∧ Hid (Rd wr bo (edges (hAll p i))) ∧ Hid (Below W0.heap.size W0 wr)) (fun _ v4 _ => v.nt - (intOf v4).toNat)
    case atStart => exact ⟨0, some ⟨w.heap.size + 1, 0, none⟩, 0, by omega, rfl, rfl, Nat.le_refl 0, Lib.hid (.inl rfl), Lib.hid (Below.refl _ _)⟩
    case round =>
      obtain ⟨wa, rfl⟩ : ∃ x, x = wr := ⟨_, rfl⟩
      obtain ⟨i, bo, cb, hi, rfl, rfl, hcb, HO, HBa⟩ := hrel
      have kp := HK.out.below HBa.out
      have q0 := kp.cell 0 rfl
      have q1 := kp.cell 1 rfl
      have q2 := kp.cell 2 rfl
      have q3 := kp.cell 3 rfl
      have q4 := kp.cell 4 rfl
      by_cases hlt : i < v.nt
      · go_wp2_with fail
        refine (specProgValid_any v p _ (HR.out.below HBa.out) HZ.out).mono ?_
        rintro e wo ⟨rfl, hb⟩
        rw [HV.out]
        have HBo := Lib.hid (HBa.out.trans (hb.mono HBa.out.size))
        replace HO := Lib.hid (HO.out.below hb)
        clear hb q0 q1 q2 q3 q4 kp HBa
        have kp := HK.out.below HBo.out
        have q0 := kp.cell 0 rfl
        have q4 := kp.cell 4 rfl
        rw [HEA.out] at q4
        obtain ⟨a2, x2, g1, r2⟩ := G1.out i (by have := lt.out; omega)
        obtain ⟨t, ht⟩ : ∃ t, t = p.threads.getD i [] := ⟨_, rfl⟩
        rw [← ht] at g1 r2
        have htl : t.length ≤ 8 := by rw [ht]; exact thr_8 HV.out i
        obtain ⟨m, hm⟩ : ∃ m, t.length = m := ⟨_, rfl⟩
        rw [hm] at g1 htl
        have HT := Lib.hid ht
        have HM := Lib.hid hm
        have HG1 := Lib.hid g1
        have HR2 := Lib.hid r2
        have g1 := keepc HBo.out g1
        obtain ⟨E0, hE0⟩ : ∃ E0, E0 = hAll p i := ⟨_, rfl⟩
        rw [← hE0] at HO hcb ⊢
        have hE0l : E0.length ≤ 96 := by rw [hE0]; have := hAll_len HV.out i; omega
        have HE0 := Lib.hid hE0
        have HNXT : Hid (hAll p (i + 1) = (hTo v.ns E0 t m).2) := Lib.hid (by
          show (hTo p.sems.length (hAll p i) (p.threads.getD i []) (p.threads.getD i []).length).2 = _
          rw [← hE0, ← ht, hm, ls.out])
        clear ht hm r2 hE0
        go_wp2_with (refine wpList_make_full _ rfl _ _ 23 rfl wo.heap.size 3 i0 (.int .i64 0) 1 Try.underlying23 hi0 hz0 hz1 _ _ _ _ v.ns rfl rfl rfl rfl (by rw [hz2]; omega) (by unfold maxLen; omega) (Nat.le_refl _) ?_; intro w2 hown1 hgr1)
        rw [show (Value.int .i64 0).cells = #[.int .i64 0] from rfl, Nat.mul_one, toList_madeCells_one] at hown1
        have hb2 : Below wo.heap.size wo w2 := below_of_grown hgr1 (Nat.le_refl _) (by simp)
        have hgl : wo.heap.size < w2.heap.size := (owns_row hown1 _ rfl).2 
        have HFAR := Lib.hid (FarE.of_rd HO.out (Nat.le_refl _))
        clear hgr1 g1 q0 q4 kp
        go_loopw [3, 6] (fun v3 v6 wk => ∃ (k : Nat) (bi : Option Addr) (ci : Nat), k ≤ m ∧ v6 = .int .i64 k ∧ v3 = .slice bi (hTo v.ns E0 t k).2.length ci ∧ (hTo v.ns E0 t k).2.length ≤ ci ∧ Hid (Rd wk bi (edges (hTo v.ns E0 t k).2)) ∧ Hid (FarE bi (hTo v.ns E0 t k).2 wo.heap.size) ∧ Hid (Held v.ns k (hTo v.ns E0 t k).1) ∧ Hid (wk.ownsRow wo.heap.size 3 1 (.slice (some ⟨wo.heap.size, 0, none⟩) v.ns v.ns) v.ns (ints (hTo v.ns E0 t k).1)) ∧ Hid (Below wo.heap.size wo wk)) (fun _ v6 _ => m - (intOf v6).toNat)
        case atStart => exact ⟨0, bo, cb, by omega, rfl, rfl, hcb, Lib.hid (HO.out.below hb2), HFAR, Lib.hid (held_start _), Lib.hid (by simpa [ints, hTo] using hown1), Lib.hid hb2⟩
        case round =>
          obtain ⟨wk, rfl⟩ : ∃ x, x = wr := ⟨_, rfl⟩
          obtain ⟨k, bi, ci, hk, rfl, rfl, hci, HO1, HF1, HH, HOW, HBk⟩ := hrel
          have HB3 := Lib.hid (HBo.out.trans (HBk.out.mono HBo.out.size))
          have kp := HK.out.below HB3.out
          have q0 := kp.cell 0 rfl
          have q4 := kp.cell 4 rfl
          rw [HEA.out] at q4
          have g1 := keepc HB3.out HG1.out
          by_cases hkm : k < m
          · skip
            obtain ⟨b2, o2, ea2, g2'⟩ := HR2.out.op (by have := HM.out; omega)
            obtain ⟨g2a, g2b, g2c⟩ := g2' k (by have := HM.out; omega)
            obtain ⟨o, ho⟩ : ∃ o, o = t.getD k noOp := ⟨_, rfl⟩
            rw [← ho] at g2a g2b g2c
            replace g2a := keepc HB3.out g2a
            replace g2b := keepc HB3.out g2b
            replace g2c := keepc HB3.out g2c
            have hop : opValid p o = true := by rw [ho, HT.out]; exact HVO.out i k (by have := lt.out; omega) (by rw [← HT.out]; have := HM.out; omega)
            obtain ⟨h, hh⟩ : ∃ h, h = (hTo v.ns E0 t k).1 := ⟨_, rfl⟩
            obtain ⟨E, hE⟩ : ∃ E, E = (hTo v.ns E0 t k).2 := ⟨_, rfl⟩
            have HNX : Hid (hTo v.ns E0 t (k + 1) = (hStep h o, hOut h o E)) := Lib.hid (by show (hStep _ _, hOut _ _ _) = _; rw [← ho, ← hh, ← hE])
            have hEl : E.length ≤ 96 + 24 := by rw [hE]; have h1 := hTo_len v.ns E0 t k; have h2 : k * v.ns ≤ 8 * 3 := Nat.mul_le_mul (by omega) vs3; omega
            rw [← hh] at HH HOW
            rw [← hE] at HO1 HF1 hci ⊢
            have hhl : h.length = v.ns := HH.out.1
            clear hh hE ho
            subst ea2
            have HHL := Lib.hid hhl
            have HOP := Lib.hid hop
            clear g2' hop hhl
            have bA : Below wk.heap.size wk (wk.alloc (.cells #[.int .i64 o.kind, .int .i64 o.on, .int .i64 o.arg] 44)) := (Below.refl _ _).alloc (Nat.le_refl _) _
            have kA : Blk (wk.alloc (.cells #[.int .i64 o.kind, .int .i64 o.on, .int .i64 o.arg] 44)) wk.heap.size #[.int .i64 o.kind, .int .i64 o.on, .int .i64 o.arg] 44 := Blk.new _ _ _
            obtain ⟨WA, hWA⟩ : ∃ WA : World, WA = wk.alloc (.cells #[.int .i64 o.kind, .int .i64 o.on, .int .i64 o.arg] 44) := ⟨_, rfl⟩
            have e0 : (wk.alloc (.cells #[.int .i64 o.kind, .int .i64 o.on, .int .i64 o.arg] 44)).cell? ⟨wk.heap.size, 0, none⟩ = some (.int .i64 o.kind) := kA.cell 0 rfl
            rw [← hWA] at bA kA
            have HOWA := Lib.hid (owns_below HOW.out bA)
            have HOA := Lib.hid (HO1.out.below bA)
            have HBA := Lib.hid (HBk.out.trans (bA.mono HBk.out.size))
            have HKA := Lib.hid kA
            have HWA := Lib.hid hWA
            have hwk : wo.heap.size < wk.heap.size := (owns_row HOW.out _ rfl).2
            clear HOW HO1 hWA kA bA HB3
            by_cases h2 : o.kind = 2
            · obtain ⟨⟨on0, on1⟩, a1, a9⟩ := valid_arg HV.out HOP.out (.inl h2)
              rw [ls.out] at on1
              have t2 : (o.kind == 2) = true := by simpa using h2
              have t3 : (o.kind == 3) = false := by simp [h2]
              have HST : Hid (hStep h o = h.set o.on.toNat (h.getD o.on.toNat 0 + o.arg)) := Lib.hid (by unfold hStep; rw [if_pos h2])
              have HOUT : Hid (hOut h o E = putsTo h o.on E v.ns) := Lib.hid (by unfold hOut; rw [if_pos h2, HHL.out])
              clear h2
              go_wp2
              rw [← HWA.out]
              clear HWA e0 g1 g2a g2b g2c q0 q4 kp
              go_loopw [3, 8] (fun v3 v8 wl => ∃ (s : Nat) (bs : Option Addr) (cs : Nat), s ≤ v.ns ∧ v8 = .int .i64 s ∧ v3 = .slice bs (putsTo h o.on E s).length cs ∧ (putsTo h o.on E s).length ≤ cs ∧ Hid (Rd wl bs (edges (putsTo h o.on E s))) ∧ Hid (FarE bs (putsTo h o.on E s) wo.heap.size) ∧ Hid (wl.ownsRow wo.heap.size 3 1 (.slice (some ⟨wo.heap.size, 0, none⟩) v.ns v.ns) v.ns (ints h)) ∧ Hid (Blk wl wk.heap.size #[.int .i64 o.kind, .int .i64 o.on, .int .i64 o.arg] 44) ∧ Hid (Below WA.heap.size WA wl)) (fun _ v8 _ => v.ns - (intOf v8).toNat)
              case atStart => exact ⟨0, bi, ci, by omega, rfl, rfl, hci, HOA, HF1, HOWA, HKA, Lib.hid (Below.refl _ _)⟩
              case round =>
                obtain ⟨wl, rfl⟩ : ∃ x, x = wr := ⟨_, rfl⟩
                obtain ⟨s, bs, cs, hs, rfl, rfl, hcs, HRS, HFS, HOWS, HKS, HBS⟩ := hrel
                have e0 := HKS.out.cell 0 rfl
                have e1 := HKS.out.cell 1 rfl
                have e2 := HKS.out.cell 2 rfl
                obtain ⟨M, hM⟩ : ∃ M, M = putsTo h o.on E s := ⟨_, rfl⟩
                have hMl : M.length ≤ 1000 := by rw [hM]; have := putsTo_len h o.on E s; omega
                rw [← hM] at HRS HFS hcs ⊢
                have HM1 := Lib.hid hM
                clear hM
                have hgw : wo.heap.size < wl.heap.size := (owns_row HOWS.out _ rfl).2
                by_cases hsn : s < v.ns
                · obtain ⟨x, hx⟩ : ∃ x, x = h.getD s 0 := ⟨_, rfl⟩
                  have hcell : wl.cell? ⟨wo.heap.size, s, none⟩ = some (.int .i64 x) := own_int HOWS.out s hsn hx HHL.out
                  have HX := Lib.hid hx
                  clear hx
                  by_cases hp : 0 < x
                  · have HNS : Hid (putsTo h o.on E (s + 1) = putE M ((s : Int), o.on)) := Lib.hid (by
                      show (if 0 < h.getD s 0 then putE (putsTo h o.on E s) ((s : Int), o.on) else putsTo h o.on E s) = _
                      rw [← HX.out, if_pos hp, ← HM1.out])
                    go_wp2_with fail
                    refine (l10Put_any bs M.length cs M ((s : Int), o.on) _ rfl (by omega) hcs HRS.out).mono ?_
                    rintro e w5 ⟨b5, c5, rfl, r5, hc5, hb, hor⟩
                    go_wp2
                    go_roundw
                    case rel =>
                      refine ⟨s + 1, b5, c5, by omega, by go_num, ?_, ?_, ?_, ?_, Lib.hid (owns_below HOWS.out hb), Lib.hid (HKS.out.below hb), Lib.hid (HBS.out.trans (hb.mono HBS.out.size))⟩
                      · rw [HNS.out]
                      · rw [HNS.out]; exact hc5
                      · rw [HNS.out]; exact Lib.hid r5
                      · rw [HNS.out]; exact Lib.hid (HFS.out.put hgw hor)
                    case measure => simp [intOf]; omega
                  · have HNS : Hid (putsTo h o.on E (s + 1) = M) := Lib.hid (by
                      show (if 0 < h.getD s 0 then putE (putsTo h o.on E s) ((s : Int), o.on) else putsTo h o.on E s) = _
                      rw [← HX.out, if_neg hp, ← HM1.out])
                    go_wp2
                    go_roundw
                    case rel => exact ⟨s + 1, bs, cs, by omega, by go_num, by rw [HNS.out], by rw [HNS.out]; exact hcs, by rw [HNS.out]; exact HRS, by rw [HNS.out]; exact HFS, HOWS, HKS, HBS⟩
                    case measure => simp [intOf]; omega
                · obtain rfl : s = v.ns := by omega
                  obtain ⟨x, hx⟩ : ∃ x, x = h.getD o.on.toNat 0 := ⟨_, rfl⟩
                  have hxb := HH.out.2 o.on.toNat
                  rw [← hx] at hxb
                  have hk8 : (k : Int) ≤ 8 := by omega
                  have hwr : IntKind.i64.wrap (x + o.arg) = x + o.arg := Go.IntWalk.i64_in _ (by omega)
                  have hcell : wl.cell? ⟨wo.heap.size, o.on.toNat, none⟩ = some (.int .i64 x) := own_int HOWS.out o.on.toNat (by omega) hx HHL.out
                  have hfz := HOWS.out.frozenAt o.on.toNat
                  have R := owns_store (owns_below HOWS.out (Below.refl _ _).drew) o.on.toNat (.int .i64 (x + o.arg)) (cs' := ints (h.set o.on.toNat (x + o.arg))) (by simp [ints, List.map_set])
                  have HX := Lib.hid hx
                  have HR9 := Lib.hid R
                  have HXB := Lib.hid hxb
                  clear hx R hxb
                  go_wp2
                  go_still_tail 12, (by kernel_rfl)
                  go_wp2
                  go_roundw
                  case rel =>
                    refine ⟨k + 1, bs, cs, by omega, by go_num, ?_, ?_, ?_, ?_, ?_, ?_, ?_⟩
                    · rw [HNX.out, HOUT.out, ← HM1.out]
                    · rw [HNX.out, HOUT.out, ← HM1.out]; exact hcs
                    · rw [HNX.out, HOUT.out, ← HM1.out]; exact Lib.hid (rd_grown_or (HRS.out.below (Below.refl _ _).drew) HR9.out.2 HFS.out)
                    · rw [HNX.out, HOUT.out, ← HM1.out]; exact HFS
                    · rw [HNX.out]; show Hid (Held _ _ (hStep h o)); rw [HST.out, ← HX.out]; exact Lib.hid (held_set HH.out (by have := HXB.out; omega))
                    · rw [HNX.out]; show Hid (World.ownsRow _ _ _ _ _ _ (ints (hStep h o))); rw [HST.out, ← HX.out]; exact Lib.hid HR9.out.1
                    · exact Lib.hid ((HBA.out.trans (HBS.out.mono HBA.out.size)).drew.trans (below_of_grown HR9.out.2 (by have := (HBA.out.trans (HBS.out.mono HBA.out.size)).size; exact this) (by simp)))
                  case measure => simp [intOf]; omega
            · have t2 : (o.kind == 2) = false := by simpa using h2
              have HOUT : Hid (hOut h o E = E) := Lib.hid (by unfold hOut; rw [if_neg h2])
              by_cases h3 : o.kind = 3
              · obtain ⟨⟨on0, on1⟩, a1, a9⟩ := valid_arg HV.out HOP.out (.inr h3)
                rw [ls.out] at on1
                have t3 : (o.kind == 3) = true := by simpa using h3
                obtain ⟨x, hx⟩ : ∃ x, x = h.getD o.on.toNat 0 := ⟨_, rfl⟩
                have HST : Hid (hStep h o = h.set o.on.toNat (x - o.arg)) := Lib.hid (by unfold hStep; rw [if_neg h2, if_pos h3, hx])
                have hxb := HH.out.2 o.on.toNat
                rw [← hx] at hxb
                have hk8 : (k : Int) ≤ 8 := by omega
                have hwr : IntKind.i64.wrap (x - o.arg) = x - o.arg := Go.IntWalk.i64_in _ (by omega)
                have hcell : WA.cell? ⟨wo.heap.size, o.on.toNat, none⟩ = some (.int .i64 x) := own_int HOWA.out o.on.toNat (by omega) hx HHL.out
                have hfz := HOWA.out.frozenAt o.on.toNat
                have e1 := HKA.out.cell 1 rfl
                have e2 := HKA.out.cell 2 rfl
                have R := owns_store (owns_below HOWA.out (Below.refl _ _).drew) o.on.toNat (.int .i64 (x - o.arg)) (cs' := ints (h.set o.on.toNat (x - o.arg))) (by simp [ints, List.map_set])
                have HX := Lib.hid hx
                have HR9 := Lib.hid R
                have HXB := Lib.hid hxb
                clear hx R hxb h2 h3
                go_wp2
                rw [← HWA.out]
                go_still_tail 12, (by kernel_rfl)
                go_wp2
                obtain ⟨W5, hW5⟩ : ∃ W5, W5 = (WA.setCell ⟨wo.heap.size, o.on.toNat, none⟩ (.int .i64 (x - o.arg))).drew := ⟨_, rfl⟩
                rw [← hW5]
                have hg5 : WA.grownBy W5 (some wo.heap.size) := by rw [hW5]; exact grown_trans (grown_set1 _ _ _ _) (grown_drew _ _)
                have HOWT : Hid (W5.ownsRow wo.heap.size 3 1 (.slice (some ⟨wo.heap.size, 0, none⟩) v.ns v.ns) v.ns (ints (hStep h o))) := Lib.hid (by rw [HST.out, hW5]; exact HR9.out.1)
                have HOT := Lib.hid (rd_grown_or HOA.out hg5 HF1.out)
                have HHT : Hid (Held v.ns (k + 1) (hStep h o)) := Lib.hid (by rw [HST.out]; exact held_set HH.out (by have := HXB.out; omega))
                have HBT := Lib.hid (HBA.out.trans (below_of_grown hg5 HBA.out.size (by simp)))
                have kA5 := HKA.out.grown hg5 (by simp; omega)
                have e0' := kA5.cell 0 rfl
                clear hW5 hg5 kA5 e1 e2 hcell hfz hwr
                go_loopw [3, 8] (fun v3 v8 wl => v3 = .slice bi E.length ci ∧ v8 = .int .i64 0 ∧ wl = W5) (fun _ _ _ => 0)
                case atStart => exact ⟨rfl, rfl, rfl⟩
                case round =>
                  obtain ⟨rfl, rfl, rfl⟩ := hrel
                  have h0 : 0 < v.ns := by omega
                  go_wp2
                  go_roundw
                  case rel =>
                    refine ⟨k + 1, bi, ci, by omega, by go_num, ?_, ?_, ?_, ?_, ?_, ?_, ?_⟩
                    · rw [HNX.out, HOUT.out]
                    · rw [HNX.out, HOUT.out]; exact hci
                    · rw [HNX.out, HOUT.out]; exact HOT
                    · rw [HNX.out, HOUT.out]; exact HF1
                    · rw [HNX.out]; exact HHT
                    · rw [HNX.out]; exact HOWT
                    · exact HBT
                  case measure => simp [intOf]; omega
              · have t3 : (o.kind == 3) = false := by simpa using h3
                have HST : Hid (hStep h o = h) := Lib.hid (by unfold hStep; rw [if_neg h2, if_neg h3])
                clear h2 h3
                go_wp2
                rw [← HWA.out]
                have e0' := HKA.out.cell 0 rfl
                have HOT := HOA
                have HHT : Hid (Held v.ns (k + 1) (hStep h o)) := Lib.hid (by rw [HST.out]; exact held_same HH.out)
                have HOWT : Hid (WA.ownsRow wo.heap.size 3 1 (.slice (some ⟨wo.heap.size, 0, none⟩) v.ns v.ns) v.ns (ints (hStep h o))) := Lib.hid (by rw [HST.out]; exact HOWA.out)
                have HBT := HBA
                go_loopw [3, 8] (fun v3 v8 wl => v3 = .slice bi E.length ci ∧ v8 = .int .i64 0 ∧ wl = WA) (fun _ _ _ => 0)
                case atStart => exact ⟨rfl, rfl, rfl⟩
                case round =>
                  obtain ⟨rfl, rfl, rfl⟩ := hrel
                  by_cases h0 : 0 < v.ns
                  all_goals
                    go_wp2
                    go_roundw
                    case rel =>
                      refine ⟨k + 1, bi, ci, by omega, by go_num, ?_, ?_, ?_, ?_, ?_, ?_, ?_⟩
                      · rw [HNX.out, HOUT.out]
                      · rw [HNX.out, HOUT.out]; exact hci
                      · rw [HNX.out, HOUT.out]; exact HOT
                      · rw [HNX.out, HOUT.out]; exact HF1
                      · rw [HNX.out]; exact HHT
                      · rw [HNX.out]; exact HOWT
                      · exact HBT
                    case measure => simp [intOf]; omega
          · obtain rfl : k = m := by omega
            go_wp2
            go_roundw
            case rel => exact ⟨i + 1, bi, ci, by omega, by go_num, by rw [HNXT.out], by rw [HNXT.out]; exact hci, by rw [HNXT.out]; exact HO1, Lib.hid (HBo.out.trans (HBk.out.mono HBo.out.size))⟩
            case measure => simp [intOf]; omega
      · obtain rfl : i = v.nt := by omega
        have HM : Hid (holdEdges p = hAll p v.nt) := Lib.hid (by unfold holdEdges; rw [if_pos HV.out, lt.out])
        have HB9 := Lib.hid (HB.out.trans (HBa.out.mono HB.out.size))
        go_wp2
        go_ret
        exact ⟨bo, cb, by rw [HM.out]; rfl, by rw [HM.out]; exact HO.out, by rw [HM.out]; exact hcb, HB9.out⟩

end Go.Proofs.Ytnobkdkfhgjeeab
