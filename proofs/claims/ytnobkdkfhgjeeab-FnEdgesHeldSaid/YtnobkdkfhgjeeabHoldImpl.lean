/- The edges from what is held to what is taken: the program's HoldEdges. -/
import Derived.Test.YtnobkdkfhgjeeabSortE
namespace Go.Proofs.Ytnobkdkfhgjeeab
open Go.RowKit

theorem types_eint : (61 : Nat) ≠ 3 := by decide
theorem hToR_snoc (n : Nat) (out : Es) (t : List OpD) (k : Nat) : hToR n out t (k + 1) = (hStep (hToR n out t k).1 (t.getD k noOp), hOutR (hToR n out t k).1 (t.getD k noOp) (hToR n out t k).2) := rfl
theorem rawTo_snoc (p : Pg) (i : Nat) : rawTo p (i + 1) = (hToR p.sems.length (rawTo p i) (p.threads.getD i []) (p.threads.getD i []).length).2 := rfl
/-- A row that is owned stays where another one is written, or grows. -/
theorem owns_apart {w w' : World} {B B' : Nat} {e e' : TypeId} {sz sz' n n' c c' : Nat} {a a' : Option Addr} {xs xs' : List Value} (h : w.ownsRow B e sz (.slice a n c) n xs) (h' : w.ownsRow B' e' sz' (.slice a' n' c') n' xs') (hne : e ≠ e') (hg : w.grownBy w' (rowOf a')) : w'.ownsRow B e sz (.slice a n c) n xs :=
  owns_grown h hg (owns_owns h h' hne)

set_option maxRecDepth 100000 in
set_option maxHeartbeats 8000000 in
theorem implHoldEdges_any (v : PV) (p : Pg) (w : World) (hr : RdP w v p) (hz : Small v p) :
    Calls Try.prog 31 #[.agg #[.slice v.s v.ns v.cs, .slice v.g v.ng v.cg, .slice v.b v.nb v.cb, .slice v.r v.nr v.cr, .slice v.t v.nt v.ct]] w fun x w' => ∃ (a' : Option Addr) (c' : Nat), x = .returned (.slice a' (holdEdges p).length c') ∧ w'.ownsRow w.heap.size 61 2 (.slice a' (holdEdges p).length c') (holdEdges p).length (edges (holdEdges p)) ∧ Below w.heap.size w w' := by
  have HZ := Lib.hid hz
  have z5 : v.nt ≤ 1048576 := hz.lt
  have zs : v.ns ≤ 1048576 := hz.ls
  have ls := Lib.hid hr.ls
  have lt := Lib.hid hr.lt
  have B0 : Below w.heap.size w (w.alloc (.cells #[.slice v.s v.ns v.cs, .slice v.g v.ng v.cg, .slice v.b v.nb v.cb, .slice v.r v.nr v.cr, .slice v.t v.nt v.ct] 26)) := (Below.refl _ _).alloc (Nat.le_refl _) _
  have k0 : Blk (w.alloc (.cells #[.slice v.s v.ns v.cs, .slice v.g v.ng v.cg, .slice v.b v.nb v.cb, .slice v.r v.nr v.cr, .slice v.t v.nt v.ct] 26)) w.heap.size #[.slice v.s v.ns v.cs, .slice v.g v.ng v.cg, .slice v.b v.nb v.cb, .slice v.r v.nr v.cr, .slice v.t v.nt v.ct] 26 := Blk.new _ _ _
  have HR := Lib.hid (hr.below B0)
  have HK := Lib.hid k0
  have HB := Lib.hid B0
  have q0 : (w.alloc (.cells #[.slice v.s v.ns v.cs, .slice v.g v.ng v.cg, .slice v.b v.nb v.cb, .slice v.r v.nr v.cr, .slice v.t v.nt v.ct] 26)).cell? ⟨w.heap.size, 0, none⟩ = some (.slice v.s v.ns v.cs) := k0.cell 0 rfl
  have q1 : (w.alloc (.cells #[.slice v.s v.ns v.cs, .slice v.g v.ng v.cg, .slice v.b v.nb v.cb, .slice v.r v.nr v.cr, .slice v.t v.nt v.ct] 26)).cell? ⟨w.heap.size, 1, none⟩ = some (.slice v.g v.ng v.cg) := k0.cell 1 rfl
  have q2 : (w.alloc (.cells #[.slice v.s v.ns v.cs, .slice v.g v.ng v.cg, .slice v.b v.nb v.cb, .slice v.r v.nr v.cr, .slice v.t v.nt v.ct] 26)).cell? ⟨w.heap.size, 2, none⟩ = some (.slice v.b v.nb v.cb) := k0.cell 2 rfl
  have q3 : (w.alloc (.cells #[.slice v.s v.ns v.cs, .slice v.g v.ng v.cg, .slice v.b v.nb v.cb, .slice v.r v.nr v.cr, .slice v.t v.nt v.ct] 26)).cell? ⟨w.heap.size, 3, none⟩ = some (.slice v.r v.nr v.cr) := k0.cell 3 rfl
  have q4 : (w.alloc (.cells #[.slice v.s v.ns v.cs, .slice v.g v.ng v.cg, .slice v.b v.nb v.cb, .slice v.r v.nr v.cr, .slice v.t v.nt v.ct] 26)).cell? ⟨w.heap.size, 4, none⟩ = some (.slice v.t v.nt v.ct) := k0.cell 4 rfl
  clear hz hr k0 B0
  obtain ⟨i0, hi0, hz0, hz1, hz2⟩ := info_parts info_int
  go_enter Try.func31, Try.ntmps31
  go_wp2_with fail
  obtain ⟨W0, hW0⟩ : ∃ W0 : World, W0 = w.alloc (.cells #[.slice v.s v.ns v.cs, .slice v.g v.ng v.cg, .slice v.b v.nb v.cb, .slice v.r v.nr v.cr, .slice v.t v.nt v.ct] 26) := ⟨_, rfl⟩
  have hsz : w.heap.size < W0.heap.size := by rw [hW0]; simp
  rw [← hW0] at HR HK HB ⊢
  clear q0 q1 q2 q3 q4 hW0
  refine (implProgValid_any v p _ HR.out HZ.out).mono ?_
  rintro e w1 ⟨rfl, hb⟩
  have HB1 := Lib.hid hb
  clear hb
  cases hv : progValid p with
  | false =>
    have HM : Hid (holdEdges p = []) := Lib.hid (by unfold holdEdges; rw [if_neg (by rw [hv]; decide)])
    clear hv
    go_wp2
    go_ret
    exact ⟨none, 0, by rw [HM.out]; rfl, by rw [HM.out]; exact ⟨rfl, .inl ⟨rfl, rfl⟩⟩, HB.out.trans (HB1.out.mono HB.out.size)⟩
  | true =>
    have HV := Lib.hid hv
    have hln := (valid_threads hv)
    have hn3 := (valid_sems hv).1
    have HVO : Hid (∀ i k, i < p.threads.length → k < (p.threads.getD i []).length → opValid p ((p.threads.getD i []).getD k noOp) = true) := Lib.hid (fun i k hi hk => valid_op hv hi hk)
    have v4' : v.nt ≤ 4 := by have := lt.out; omega
    have vs3 : v.ns ≤ 3 := by have := ls.out; omega
    have HRT := Lib.hid (HR.out.below HB1.out)
    have HKT := Lib.hid (HK.out.below HB1.out)
    have hs1 : W0.heap.size ≤ w1.heap.size := HB1.out.size
    obtain ⟨b1, o1, ea, g1'⟩ := RdP.thr0 HRT.out (by have := lt.out; omega)
    have HEA := Lib.hid ea
    have G1 := Lib.hid g1'
    have q4 := HKT.out.cell 4 rfl
    rw [HEA.out] at q4
    clear hv ea g1' hln
    go_wp2
    go_loopw [3, 17] (fun v3 v17 wr => ∃ (i : Nat) (bo : Option Addr) (cb : Nat), i ≤ v.nt ∧ v17 = .int .i64 i ∧ v3 = .slice bo (rawTo p i).length cb ∧ Hid (wr.ownsRow w1.heap.size 61 2 (.slice bo (rawTo p i).length cb) (rawTo p i).length (edges (rawTo p i))) ∧ Hid (Below w1.heap.size w1 wr)) (fun _ v17 _ => v.nt - (intOf v17).toNat)
    case atStart => exact ⟨0, none, 0, by omega, rfl, rfl, Lib.hid ⟨rfl, .inl ⟨rfl, rfl⟩⟩, Lib.hid (Below.refl _ _)⟩
    case round =>
      obtain ⟨wo, rfl⟩ : ∃ x, x = wr := ⟨_, rfl⟩
      obtain ⟨i, bo, cb, hi, rfl, rfl, HO, HBo⟩ := hrel
      clear q4
      have q0 := (HKT.out.below HBo.out).cell 0 rfl
      by_cases hlt : i < v.nt
      · obtain ⟨a2, x2, g1, r2⟩ := G1.out i (by have := lt.out; omega)
        obtain ⟨t, ht⟩ : ∃ t, t = p.threads.getD i [] := ⟨_, rfl⟩
        rw [← ht] at g1 r2
        have htl : t.length ≤ 8 := by rw [ht]; exact thr_8 HV.out i
        obtain ⟨m, hm⟩ : ∃ m, t.length = m := ⟨_, rfl⟩
        rw [hm] at g1 htl
        have HT := Lib.hid ht
        have HM := Lib.hid hm
        have HR2 := Lib.hid r2
        replace g1 := keepc HBo.out g1
        obtain ⟨E0, hE0⟩ : ∃ E0, E0 = rawTo p i := ⟨_, rfl⟩
        rw [← hE0] at HO ⊢
        have hE0l : E0.length ≤ 96 := by rw [hE0]; have := rawTo_len HV.out i; omega
        have HNXT : Hid (rawTo p (i + 1) = (hToR v.ns E0 t m).2) := Lib.hid (by
          rw [rawTo_snoc, ← hE0, ← ht, hm, ls.out])
        clear ht hm r2 hE0
        go_wp2_with (refine wpList_make_full _ rfl _ _ 23 rfl wo.heap.size 3 i0 (.int .i64 0) 1 Try.underlying23 hi0 hz0 hz1 _ _ _ _ v.ns rfl rfl rfl rfl (by rw [hz2]; omega) (by unfold maxLen; omega) (Nat.le_refl _) ?_; intro w2 hown1 hgr1)
        rw [show (Value.int .i64 0).cells = #[.int .i64 0] from rfl, Nat.mul_one, toList_madeCells_one] at hown1
        have hb2 : Below wo.heap.size wo w2 := below_of_grown hgr1 (Nat.le_refl _) (by simp)
        have HG := Lib.hid (owns_row hown1 _ rfl)
        have HBo2 := Lib.hid (HBo.out.trans (hb2.mono HBo.out.size))
        have HO2 := Lib.hid (owns_below HO.out hb2)
        have HOW1 := Lib.hid hown1
        clear hgr1 g1 q0 HO hown1 hb2
        go_loopw [3, 27] (fun v3 v27 wk => ∃ (k : Nat) (bi : Option Addr) (ci : Nat), k ≤ m ∧ v27 = .int .i64 k ∧ v3 = .slice bi (hToR v.ns E0 t k).2.length ci ∧ Hid (wk.ownsRow w1.heap.size 61 2 (.slice bi (hToR v.ns E0 t k).2.length ci) (hToR v.ns E0 t k).2.length (edges (hToR v.ns E0 t k).2)) ∧ Hid (Held v.ns k (hToR v.ns E0 t k).1) ∧ Hid (wk.ownsRow wo.heap.size 3 1 (.slice (some ⟨wo.heap.size, 0, none⟩) v.ns v.ns) v.ns (ints (hToR v.ns E0 t k).1)) ∧ Hid (Below w1.heap.size w1 wk)) (fun _ v27 _ => m - (intOf v27).toNat)
        case atStart => exact ⟨0, bo, cb, by omega, rfl, rfl, HO2, Lib.hid (held_start _), Lib.hid (by simpa [ints, hToR] using HOW1.out), HBo2⟩
        case round =>
          obtain ⟨wk, rfl⟩ : ∃ x, x = wr := ⟨_, rfl⟩
          obtain ⟨k, bi, ci, hk, rfl, rfl, HO1, HH, HOW, HBk⟩ := hrel
          by_cases hkm : k < m
          · skip
            obtain ⟨b2, o2, ea2, g2'⟩ := HR2.out.op (by have := HM.out; omega)
            obtain ⟨g2a, g2b, g2c⟩ := g2' k (by have := HM.out; omega)
            obtain ⟨o, ho⟩ : ∃ o, o = t.getD k noOp := ⟨_, rfl⟩
            rw [← ho] at g2a g2b g2c
            replace g2a := keepc HBk.out g2a
            replace g2b := keepc HBk.out g2b
            replace g2c := keepc HBk.out g2c
            have hop : opValid p o = true := by rw [ho, HT.out]; exact HVO.out i k (by have := lt.out; omega) (by rw [← HT.out]; have := HM.out; omega)
            obtain ⟨h, hh⟩ : ∃ h, h = (hToR v.ns E0 t k).1 := ⟨_, rfl⟩
            obtain ⟨E, hE⟩ : ∃ E, E = (hToR v.ns E0 t k).2 := ⟨_, rfl⟩
            have HNX : Hid (hToR v.ns E0 t (k + 1) = (hStep h o, hOutR h o E)) := Lib.hid (by rw [hToR_snoc, ← ho, ← hh, ← hE])
            have hEl : E.length ≤ 96 + 24 := by rw [hE]; have h1 := hToR_len v.ns E0 t k; have h2 : k * v.ns ≤ 8 * 3 := Nat.mul_le_mul (by omega) vs3; omega
            rw [← hh] at HH HOW
            rw [← hE] at HO1 ⊢
            have hhl : h.length = v.ns := HH.out.1
            clear hh hE ho
            subst ea2
            have HHL := Lib.hid hhl
            have HOP := Lib.hid hop
            clear g2' hop hhl
            have bA : Below wk.heap.size wk (wk.alloc (.cells #[.int .i64 o.kind, .int .i64 o.on, .int .i64 o.arg] 44)) := (Below.refl _ _).alloc (Nat.le_refl _) _
            have kA : Blk (wk.alloc (.cells #[.int .i64 o.kind, .int .i64 o.on, .int .i64 o.arg] 44)) wk.heap.size #[.int .i64 o.kind, .int .i64 o.on, .int .i64 o.arg] 44 := Blk.new _ _ _
            obtain ⟨WA, hWA⟩ : ∃ WA : World, WA = wk.alloc (.cells #[.int .i64 o.kind, .int .i64 o.on, .int .i64 o.arg] 44) := ⟨_, rfl⟩
            rw [← hWA] at bA kA
            have HOA := Lib.hid (owns_below HO1.out bA)
            have HOWA := Lib.hid (owns_below HOW.out bA)
            have HBA := Lib.hid (HBk.out.trans (bA.mono HBk.out.size))
            have HKA := Lib.hid kA
            have HWA := Lib.hid hWA
            have hGk : wo.heap.size < wk.heap.size := (owns_row HOW.out _ rfl).2
            have e0 := kA.cell 0 rfl
            have e1 := kA.cell 1 rfl
            have e2 := kA.cell 2 rfl
            clear hWA kA bA
            by_cases h2 : o.kind = 2
            · obtain ⟨⟨on0, on1⟩, a1, a9⟩ := valid_arg HV.out HOP.out (.inl h2)
              rw [ls.out] at on1
              have t2 : (o.kind == 2) = true := by simpa using h2
              have t3 : (o.kind == 3) = false := by simp [h2]
              obtain ⟨x, hx⟩ : ∃ x, x = h.getD o.on.toNat 0 := ⟨_, rfl⟩
              have HST : Hid (hStep h o = h.set o.on.toNat (x + o.arg)) := Lib.hid (by unfold hStep; rw [if_pos h2, hx])
              have HOUT : Hid (hOutR h o E = putsRaw h o.on E v.ns) := Lib.hid (by unfold hOutR; rw [if_pos h2, HHL.out])
              have hxb := HH.out.2 o.on.toNat
              rw [← hx] at hxb
              have hk8 : (k : Int) ≤ 8 := by omega
              have hwr : IntKind.i64.wrap (x + o.arg) = x + o.arg := Go.IntWalk.i64_in _ (by omega)
              have HX := Lib.hid hx
              have HXB := Lib.hid hxb
              have HAA := Lib.hid (And.intro a1 a9)
              clear hx hxb h2 a1 a9
              go_wp2
              rw [← HWA.out]
              clear HWA e0 g2a g2b g2c
              go_loopw [3, 37] (fun v3 v37 wl => ∃ (s : Nat) (bs : Option Addr) (cs : Nat), s ≤ v.ns ∧ v37 = .int .i64 s ∧ v3 = .slice bs (putsRaw h o.on E s).length cs ∧ Hid (wl.ownsRow w1.heap.size 61 2 (.slice bs (putsRaw h o.on E s).length cs) (putsRaw h o.on E s).length (edges (putsRaw h o.on E s))) ∧ Hid (wl.ownsRow wo.heap.size 3 1 (.slice (some ⟨wo.heap.size, 0, none⟩) v.ns v.ns) v.ns (ints h)) ∧ Hid (Blk wl wk.heap.size #[.int .i64 o.kind, .int .i64 o.on, .int .i64 o.arg] 44) ∧ Hid (Below w1.heap.size w1 wl)) (fun _ v37 _ => v.ns - (intOf v37).toNat)
              case atStart => exact ⟨0, bi, ci, by omega, rfl, rfl, HOA, HOWA, HKA, HBA⟩
              case round =>
                obtain ⟨wl, rfl⟩ : ∃ x, x = wr := ⟨_, rfl⟩
                obtain ⟨s, bs, cs, hs, rfl, rfl, HOS, HOWS, HKS, HBS⟩ := hrel
                have e0 := HKS.out.cell 0 rfl
                have e1 := HKS.out.cell 1 rfl
                have e2 := HKS.out.cell 2 rfl
                obtain ⟨M, hM⟩ : ∃ M, M = putsRaw h o.on E s := ⟨_, rfl⟩
                have hMl : M.length ≤ 1000 := by rw [hM]; have := putsRaw_len h o.on E s; omega
                rw [← hM] at HOS ⊢
                have HM1 := Lib.hid hM
                clear hM
                have hgw : wo.heap.size < wl.heap.size := (owns_row HOWS.out _ rfl).2
                by_cases hsn : s < v.ns
                · obtain ⟨y, hy⟩ : ∃ y, y = h.getD s 0 := ⟨_, rfl⟩
                  have hcell : wl.cell? ⟨wo.heap.size, s, none⟩ = some (.int .i64 y) := own_int HOWS.out s hsn hy HHL.out
                  have HY := Lib.hid hy
                  clear hy
                  by_cases hp : 0 < y
                  · have HNS : Hid (putsRaw h o.on E (s + 1) = M ++ [((s : Int), o.on)]) := Lib.hid (by
                      show (if 0 < h.getD s 0 then putsRaw h o.on E s ++ [((s : Int), o.on)] else putsRaw h o.on E s) = _
                      rw [← HY.out, if_pos hp, ← HM1.out])
                    have hown := HOS.out
                    have ONE : Hid (∀ u ∈ edge ((s : Int), o.on), u.oneCell' = true) := Lib.hid (by intro u hu; simp [edge] at hu; rcases hu with rfl | rfl <;> rfl)
                    have hSb : w1.heap.size ≤ wl.heap.size := HBS.out.size
                    go_wp2_with (at_builtin; refine wpList_append_sl (m := 1) (cm := 1) (news := edge ((s : Int), o.on)) rfl (.tmp 44) (.tmp 49) 54 rfl Try.underlying54 info_edge rfl (by decide) rfl hown rfl rfl rfl ONE.out (by omega) (by decide) hSb ?_; intro b5 c5 w5 hown5 hgr5; have HWN := Lib.hid hown; clear hown)
                    have HO5 := Lib.hid hown5
                    have HG5 := Lib.hid hgr5
                    clear hown5 hgr5
                    go_wp2
                    go_roundw
                    case rel =>
                      refine ⟨s + 1, b5, c5, by omega, by go_num, ?_, ?_, Lib.hid (owns_apart HOWS.out HOS.out types_eint.symm HG5.out), Lib.hid (HKS.out.grown HG5.out (blk_owns HKS.out HOS.out (by decide))), Lib.hid (HBS.out.trans (below_of_grown HG5.out HBS.out.size (fun k hk => (owns_row HOS.out k hk).1)))⟩
                      · rw [HNS.out, List.length_append]; rfl
                      · rw [HNS.out, List.length_append]; exact Lib.hid (by simpa [edges, List.flatMap_append] using HO5.out)
                    case measure => simp [intOf]; omega
                  · have HNS : Hid (putsRaw h o.on E (s + 1) = M) := Lib.hid (by
                      show (if 0 < h.getD s 0 then putsRaw h o.on E s ++ [((s : Int), o.on)] else putsRaw h o.on E s) = _
                      rw [← HY.out, if_neg hp, ← HM1.out])
                    go_wp2
                    go_roundw
                    case rel => exact ⟨s + 1, bs, cs, by omega, by go_num, by rw [HNS.out], by rw [HNS.out]; exact HOS, HOWS, HKS, HBS⟩
                    case measure => simp [intOf]; omega
                · obtain rfl : s = v.ns := by omega
                  have hcell : wl.cell? ⟨wo.heap.size, o.on.toNat, none⟩ = some (.int .i64 x) := own_int HOWS.out o.on.toNat (by omega) HX.out HHL.out
                  have hfz := HOWS.out.frozenAt o.on.toNat
                  have R := owns_store (owns_below HOWS.out (Below.refl _ _).drew) o.on.toNat (.int .i64 (x + o.arg)) (cs' := ints (h.set o.on.toNat (x + o.arg))) (by simp [ints, List.map_set])
                  have HR9 := Lib.hid R
                  clear R
                  go_wp2
                  go_still_tail 9, (by kernel_rfl)
                  go_wp2
                  obtain ⟨W5, hW5⟩ : ∃ W5, W5 = (wl.setCell ⟨wo.heap.size, o.on.toNat, none⟩ (.int .i64 (x + o.arg))).drew := ⟨_, rfl⟩
                  rw [← hW5]
                  have hg5 : wl.grownBy W5 (rowOf (some ⟨wo.heap.size, 0, none⟩)) := by rw [hW5]; exact grown_trans (grown_set1 _ _ _ _) (grown_drew _ _)
                  have HOWT : Hid (W5.ownsRow wo.heap.size 3 1 (.slice (some ⟨wo.heap.size, 0, none⟩) v.ns v.ns) v.ns (ints (hStep h o))) := Lib.hid (by rw [HST.out, hW5]; exact HR9.out.1)
                  have HOT := Lib.hid (owns_apart HOS.out HOWS.out types_eint hg5)
                  have HHT : Hid (Held v.ns (k + 1) (hStep h o)) := Lib.hid (by rw [HST.out]; exact held_set HH.out (by have := HXB.out; have := HAA.out; omega))
                  have HBT := Lib.hid (HBS.out.trans (below_of_grown hg5 HBS.out.size (fun q hq => by simp [rowOf] at hq; rw [← hq]; exact HBo.out.size)))
                  clear hW5 hg5
                  go_roundw
                  case rel =>
                    refine ⟨k + 1, bs, cs, by omega, by go_num, ?_, ?_, ?_, ?_, HBT⟩
                    · rw [HNX.out, HOUT.out, ← HM1.out]
                    · rw [HNX.out, HOUT.out, ← HM1.out]; exact HOT
                    · rw [HNX.out]; exact HHT
                    · rw [HNX.out]; exact HOWT
                  case measure => simp [intOf]; omega
            · have HOUT : Hid (hOutR h o E = E) := Lib.hid (by unfold hOutR; rw [if_neg h2])
              have t2 : (o.kind == 2) = false := by simpa using h2
              by_cases h3 : o.kind = 3
              · obtain ⟨⟨on0, on1⟩, a1, a9⟩ := valid_arg HV.out HOP.out (.inr h3)
                rw [ls.out] at on1
                have t3 : (o.kind == 3) = true := by simpa using h3
                obtain ⟨x, hx⟩ : ∃ x, x = h.getD o.on.toNat 0 := ⟨_, rfl⟩
                have HST : Hid (hStep h o = h.set o.on.toNat (x - o.arg)) := Lib.hid (by unfold hStep; rw [if_neg h2, if_pos h3, hx])
                have hxb := HH.out.2 o.on.toNat
                rw [← hx] at hxb
                have hk8 : (k : Int) ≤ 8 := by omega
                have hwr : IntKind.i64.wrap (x - o.arg) = x - o.arg := Go.IntWalk.i64_in _ (by omega)
                have hcell : WA.cell? ⟨wo.heap.size, o.on.toNat, none⟩ = some (.int .i64 x) := own_int HOWA.out o.on.toNat (by omega) hx HHL.out
                have hfz := HOWA.out.frozenAt o.on.toNat
                have R := owns_store (owns_below HOWA.out (Below.refl _ _).drew) o.on.toNat (.int .i64 (x - o.arg)) (cs' := ints (h.set o.on.toNat (x - o.arg))) (by simp [ints, List.map_set])
                have HX := Lib.hid hx
                have HR9 := Lib.hid R
                have HXB := Lib.hid hxb
                clear hx R hxb h2 h3
                go_wp2
                rw [← HWA.out]
                go_still_tail 9, (by kernel_rfl)
                go_wp2
                obtain ⟨W5, hW5⟩ : ∃ W5, W5 = (WA.setCell ⟨wo.heap.size, o.on.toNat, none⟩ (.int .i64 (x - o.arg))).drew := ⟨_, rfl⟩
                rw [← hW5]
                have hg5 : WA.grownBy W5 (rowOf (some ⟨wo.heap.size, 0, none⟩)) := by rw [hW5]; exact grown_trans (grown_set1 _ _ _ _) (grown_drew _ _)
                have HOWT : Hid (W5.ownsRow wo.heap.size 3 1 (.slice (some ⟨wo.heap.size, 0, none⟩) v.ns v.ns) v.ns (ints (hStep h o))) := Lib.hid (by rw [HST.out, hW5]; exact HR9.out.1)
                have HOT := Lib.hid (owns_apart HOA.out HOWA.out types_eint hg5)
                have HHT : Hid (Held v.ns (k + 1) (hStep h o)) := Lib.hid (by rw [HST.out]; exact held_set HH.out (by have := HXB.out; omega))
                have HBT := Lib.hid (HBA.out.trans (below_of_grown hg5 HBA.out.size (fun q hq => by simp [rowOf] at hq; rw [← hq]; exact HBo.out.size)))
                clear hW5 hg5 e1 e2 hcell hfz hwr
                go_roundw
                case rel =>
                  refine ⟨k + 1, bi, ci, by omega, by go_num, ?_, ?_, ?_, ?_, HBT⟩
                  · rw [HNX.out, HOUT.out]
                  · rw [HNX.out, HOUT.out]; exact HOT
                  · rw [HNX.out]; exact HHT
                  · rw [HNX.out]; exact HOWT
                case measure => simp [intOf]; omega
              · have t3 : (o.kind == 3) = false := by simpa using h3
                have HST : Hid (hStep h o = h) := Lib.hid (by unfold hStep; rw [if_neg h2, if_neg h3])
                clear h2 h3
                go_wp2
                rw [← HWA.out]
                go_roundw
                case rel =>
                  refine ⟨k + 1, bi, ci, by omega, by go_num, ?_, ?_, ?_, ?_, HBA⟩
                  · rw [HNX.out, HOUT.out]
                  · rw [HNX.out, HOUT.out]; exact HOA
                  · rw [HNX.out]; exact Lib.hid (by rw [HST.out]; exact held_same HH.out)
                  · rw [HNX.out, HST.out]; exact HOWA
                case measure => simp [intOf]; omega
          · obtain rfl : k = m := by omega
            go_wp2
            go_roundw
            case rel => exact ⟨i + 1, bi, ci, by omega, by go_num, by rw [HNXT.out], by rw [HNXT.out]; exact HO1, HBk⟩
            case measure => simp [intOf]; omega
      · obtain rfl : i = v.nt := by omega
        obtain ⟨R0, hR0⟩ : ∃ R0, R0 = rawTo p v.nt := ⟨_, rfl⟩
        rw [← hR0] at HO ⊢
        have hRl : R0.length ≤ 96 := by rw [hR0]; have := rawTo_len HV.out v.nt; omega
        have HRE : Hid (holdEdges p = gather R0) := Lib.hid (by unfold holdEdges; rw [if_pos HV.out, lt.out, hAll_gather, hR0])
        have HO' := Lib.hid (owns_mono HO.out (Nat.zero_le _))
        clear hR0 q0
        go_wp2_with fail
        refine (sortEdges_any bo R0.length cb R0 _ HO'.out (by omega)).mono ?_
        rintro e wa ⟨rfl, d', hd', hdl, ho', hga⟩
        have HD := Lib.hid hd'
        have HDL := Lib.hid hdl
        have HOd := Lib.hid ho'
        have HGA := Lib.hid hga
        clear hd' hdl ho' hga
        go_wp2_with fail
        refine (compactEdges_any bo R0.length cb d' _ HOd.out (by omega)).mono ?_
        rintro e wc ⟨m', rfl, hoc, hgc⟩
        rw [HD.out, ← HRE.out] at hoc
        have hml : (holdEdges p).length = m' := by have := hoc.1; rw [edges_len] at this; omega
        have H1 : Hid ((edges (holdEdges p)).length = m' * 2) := Lib.hid hoc.1
        have hmb : m' ≤ 96 := by rw [← hml, HRE.out, ← HD.out]; have := compTo_len d' d'.length; have := HDL.out; omega
        have ONE : Hid (∀ u ∈ edges (holdEdges p), u.oneCell' = true) := Lib.hid (by
          intro u hu
          obtain ⟨e, -, he⟩ := List.mem_flatMap.1 hu
          simp [edge] at he; rcases he with rfl | rfl <;> rfl)
        have hrd := Rd.of_owns hoc
        have hgw := grown_trans HGA.out hgc
        have HBc := Lib.hid (HBo.out.trans (below_of_grown hgw HBo.out.size (fun k hk => (owns_row HO.out k hk).1)))
        have HML := Lib.hid hml
        clear hoc hgc hgw hml
        have hrd' := hrd
        go_wp2_with (at_builtin; refine wpList_append_rd rfl _ _ 54 rfl Try.underlying54 info_edge rfl (by decide) rfl (owns_none _ wc.heap.size _ _) rfl H1.out hrd' ONE.out (by omega) (by decide) (Nat.le_refl _) ?_; intro a9 c9 w9 hown9 hgr9)
        have B9 := below_of_grown hgr9 (Nat.le_refl _) (by simp [rowOf])
        have HO9 := Lib.hid hown9
        have HB9 := Lib.hid (HB.out.trans (((HB1.out.trans (HBc.out.mono HB1.out.size)).trans (B9.mono (HB1.out.trans (HBc.out.mono HB1.out.size)).size)).mono HB.out.size))
        have hsz9 : w.heap.size ≤ wc.heap.size := by have := HB.out.size; have := HB1.out.size; have := HBc.out.size; omega
        clear hown9 hgr9 B9
        go_wp2
        go_ret
        refine ⟨a9, c9, by rw [HML.out]; simp, ?_, HB9.out⟩
        rw [HML.out]
        exact owns_mono (by simpa using HO9.out) hsz9

end Go.Proofs.Ytnobkdkfhgjeeab
