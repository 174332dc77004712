/- The law FnLeftThreads: its walk. -/
import Derived.Test.YtnobkdkfhgjeeaaLeftPlain
import Derived.Test.YtnobkdkfhgjeeaaTalliesSpec
import Derived.Test.YtnobkdkfhgjeeaaWkInts
import Derived.Lib.QuietBelow
import Derived.BigQuiet
import Derived.IntWalk
namespace Go.Proofs.Ytnobkdkfhgjeeaa
open Go.RowKit Go.Sort

set_option maxRecDepth 100000 in
set_option maxHeartbeats 4000000 in
theorem fnLeftThreadsLaw (a : Option Addr) (n c : Nat) (bs : List Int) (w : World) (hl : bs.length = n) (h1 : Rd w a (bytesV bs)) (hmx : n ≤ maxLen) (hcap : n ≤ c) (hby : ∀ b ∈ bs, 0 ≤ b ∧ b ≤ 255) :
    Calls Try.prog 12 #[.slice a n c] w fun e w' => e = .returned (.bool true) ∧ Below w.heap.size w w' := by
  unfold maxLen at hmx
  have HL := Lib.hid hl
  have HBY := Lib.hid hby
  clear hl hby
  by_cases hn : n ≤ 1048576
  · have hC := Lib.hid (Code13.mk HL.out h1 hcap HBY.out hn)
    clear HL HBY h1
    go_enter Try.func12, Try.ntmps12
    go_wp2_with fail
    refine (drawGroupsLeft_any a n c bs w hC.out).mono ?_
    rintro e w1 ⟨v, vs, p, rfl, o1, hb⟩
    have HB := Lib.hid hb
    have HR := Lib.hid o1.own.rd
    have HF := Lib.hid o1.few
    have HZ := Lib.hid (o1.small (by omega))
    have HO := Lib.hid o1.own
    clear hb o1 hC
    have bb : Below w1.heap.size w1 (w1.alloc (.cells #[.slice v.s v.ns v.cs, .slice v.g v.ng v.cg, .slice v.b v.nb v.cb, .slice v.r v.nr v.cr, .slice v.t v.nt v.ct] 30)) := (Below.refl _ _).alloc (Nat.le_refl _) _
    have kp : Blk (w1.alloc (.cells #[.slice v.s v.ns v.cs, .slice v.g v.ng v.cg, .slice v.b v.nb v.cb, .slice v.r v.nr v.cr, .slice v.t v.nt v.ct] 30)) w1.heap.size #[.slice v.s v.ns v.cs, .slice v.g v.ng v.cg, .slice v.b v.nb v.cb, .slice v.r v.nr v.cr, .slice v.t v.nt v.ct] 30 := Blk.new _ _ _
    replace HR := Lib.hid (HR.out.below bb)
    replace HO := Lib.hid (HO.out.below bb)
    replace HB := Lib.hid (HB.out.trans (bb.mono HB.out.size))
    clear bb
    obtain ⟨N, hN⟩ : ∃ N, (groupsLeft p).length = N := ⟨_, rfl⟩
    have HN := Lib.hid hN
    have hN2 : N ≤ 1048576 := by rw [← hN]; exact groupsLeft_len HR.out HZ.out
    clear hN
    have ckp0 := kp.cell 0 rfl
    have ckp1 := kp.cell 1 rfl
    have ckp2 := kp.cell 2 rfl
    have ckp3 := kp.cell 3 rfl
    have ckp4 := kp.cell 4 rfl
    go_wp2_with fail
    refine (implGroupsLeft_any N v p _ HN.out HR.out HZ.out).mono ?_
    rintro e w2 ⟨a1, c1, rfl, ol, hb⟩
    have HL1 := Lib.hid (Rd.of_owns ol)
    clear ol
    replace HR := Lib.hid (HR.out.below hb)
    replace HO := Lib.hid (HO.out.below hb)
    replace kp := kp.below hb
    replace HB := Lib.hid (HB.out.trans (hb.mono HB.out.size))
    clear hb
    clear ckp0 ckp1 ckp2 ckp3 ckp4
    have ckp0 := kp.cell 0 rfl
    have ckp1 := kp.cell 1 rfl
    have ckp2 := kp.cell 2 rfl
    have ckp3 := kp.cell 3 rfl
    have ckp4 := kp.cell 4 rfl
    go_wp2_with fail
    refine (specGroupsLeft_any N v p _ HN.out HR.out HZ.out).mono ?_
    rintro e w3 ⟨a2, ca2, rfl, ol, hb⟩
    have HL2 := Lib.hid (Rd.of_owns ol)
    clear ol
    replace HR := Lib.hid (HR.out.below hb)
    replace HO := Lib.hid (HO.out.below hb)
    replace HL1 := Lib.hid (HL1.out.below hb)
    replace kp := kp.below hb
    replace HB := Lib.hid (HB.out.trans (hb.mono HB.out.size))
    clear hb
    clear ckp0 ckp1 ckp2 ckp3 ckp4
    have ckp0 := kp.cell 0 rfl
    have ckp1 := kp.cell 1 rfl
    have ckp2 := kp.cell 2 rfl
    have ckp3 := kp.cell 3 rfl
    have ckp4 := kp.cell 4 rfl
    go_wp2_with fail
    refine (wkInts_any a1 a2 N N c1 ca2 (groupsLeft p) (groupsLeft p) _ (by omega) HN.out HN.out HL1.out HL2.out).mono ?_
    rintro e w4 ⟨rfl, d⟩
    have hb := below_of_drewN (B := w3.heap.size) d
    clear d
    replace HR := Lib.hid (HR.out.below hb)
    replace HO := Lib.hid (HO.out.below hb)
    replace HL1 := Lib.hid (HL1.out.below hb)
    replace HL2 := Lib.hid (HL2.out.below hb)
    replace kp := kp.below hb
    replace HB := Lib.hid (HB.out.trans (hb.mono HB.out.size))
    clear hb
    clear ckp0 ckp1 ckp2 ckp3 ckp4
    rw [decide_eq_true (rfl : groupsLeft p = groupsLeft p)]
    clear HL2
    have ckp0 := kp.cell 0 rfl
    have ckp1 := kp.cell 1 rfl
    have ckp2 := kp.cell 2 rfl
    have ckp3 := kp.cell 3 rfl
    have ckp4 := kp.cell 4 rfl
    go_wp2_with fail
    refine (implProgValid_any v p _ HR.out HZ.out).mono ?_
    rintro e w5 ⟨rfl, hb⟩
    replace HR := Lib.hid (HR.out.below hb)
    replace HO := Lib.hid (HO.out.below hb)
    replace HL1 := Lib.hid (HL1.out.below hb)
    replace kp := kp.below hb
    replace HB := Lib.hid (HB.out.trans (hb.mono HB.out.size))
    clear hb
    clear ckp0 ckp1 ckp2 ckp3 ckp4
    cases hv : progValid p with
    | false =>
      clear hv
      have ckp0 := kp.cell 0 rfl
      have ckp1 := kp.cell 1 rfl
      have ckp2 := kp.cell 2 rfl
      have ckp3 := kp.cell 3 rfl
      have ckp4 := kp.cell 4 rfl
      go_wp2_with fail
      refine (specGroupsLeft_any N v p _ HN.out HR.out HZ.out).mono ?_
      rintro e w6 ⟨a3, ca3, rfl, ol, hb⟩
      have HL2 := Lib.hid (Rd.of_owns ol)
      clear ol
      replace HR := Lib.hid (HR.out.below hb)
      replace HO := Lib.hid (HO.out.below hb)
      replace HL1 := Lib.hid (HL1.out.below hb)
      replace kp := kp.below hb
      replace HB := Lib.hid (HB.out.trans (hb.mono HB.out.size))
      clear hb
      clear ckp0 ckp1 ckp2 ckp3 ckp4
      have ckp0 := kp.cell 0 rfl
      have ckp1 := kp.cell 1 rfl
      have ckp2 := kp.cell 2 rfl
      have ckp3 := kp.cell 3 rfl
      have ckp4 := kp.cell 4 rfl
      go_wp2_with fail
      refine (wkInts_any a1 a3 N N c1 ca3 (groupsLeft p) (groupsLeft p) _ (by omega) HN.out HN.out HL1.out HL2.out).mono ?_
      rintro e w7 ⟨rfl, d⟩
      have hb := below_of_drewN (B := w6.heap.size) d
      clear d
      replace HR := Lib.hid (HR.out.below hb)
      replace HO := Lib.hid (HO.out.below hb)
      replace HL1 := Lib.hid (HL1.out.below hb)
      replace HL2 := Lib.hid (HL2.out.below hb)
      replace kp := kp.below hb
      replace HB := Lib.hid (HB.out.trans (hb.mono HB.out.size))
      clear hb
      clear ckp0 ckp1 ckp2 ckp3 ckp4
      rw [decide_eq_true (rfl : groupsLeft p = groupsLeft p)]
      clear HL2
      go_wp2
      go_ret
      exact ⟨rfl, HB.out⟩
    | true =>
      have hlt := HR.out.lt
      have HLT := Lib.hid hlt
      have hlg := Lib.hid HR.out.lg
      by_cases h2 : v.nt < 2
      · clear hlt hv
        have ckp0 := kp.cell 0 rfl
        have ckp1 := kp.cell 1 rfl
        have ckp2 := kp.cell 2 rfl
        have ckp3 := kp.cell 3 rfl
        have ckp4 := kp.cell 4 rfl
        go_wp2_with fail
        refine (specGroupsLeft_any N v p _ HN.out HR.out HZ.out).mono ?_
        rintro e w6 ⟨a3, ca3, rfl, ol, hb⟩
        have HL2 := Lib.hid (Rd.of_owns ol)
        clear ol
        replace HR := Lib.hid (HR.out.below hb)
        replace HO := Lib.hid (HO.out.below hb)
        replace HL1 := Lib.hid (HL1.out.below hb)
        replace kp := kp.below hb
        replace HB := Lib.hid (HB.out.trans (hb.mono HB.out.size))
        clear hb
        clear ckp0 ckp1 ckp2 ckp3 ckp4
        have ckp0 := kp.cell 0 rfl
        have ckp1 := kp.cell 1 rfl
        have ckp2 := kp.cell 2 rfl
        have ckp3 := kp.cell 3 rfl
        have ckp4 := kp.cell 4 rfl
        go_wp2_with fail
        refine (wkInts_any a1 a3 N N c1 ca3 (groupsLeft p) (groupsLeft p) _ (by omega) HN.out HN.out HL1.out HL2.out).mono ?_
        rintro e w7 ⟨rfl, d⟩
        have hb := below_of_drewN (B := w6.heap.size) d
        clear d
        replace HR := Lib.hid (HR.out.below hb)
        replace HO := Lib.hid (HO.out.below hb)
        replace HL1 := Lib.hid (HL1.out.below hb)
        replace HL2 := Lib.hid (HL2.out.below hb)
        replace kp := kp.below hb
        replace HB := Lib.hid (HB.out.trans (hb.mono HB.out.size))
        clear hb
        clear ckp0 ckp1 ckp2 ckp3 ckp4
        rw [decide_eq_true (rfl : groupsLeft p = groupsLeft p)]
        clear HL2
        go_wp2
        go_ret
        exact ⟨rfl, HB.out⟩
      · have h2' : 2 ≤ p.threads.length := by omega
        have v4 : v.nt ≤ 4 := by have := (valid_ops hv).2.1; omega
        obtain ⟨l1, l2, l3⟩ := left_len hv h2'
        have hcap : v.nt ≤ v.ct ∧ v.ct ≤ maxLen := owns_cap HO.out.ot.out
        unfold maxLen at hcap
        obtain ⟨hc1, hc2⟩ := hcap
        obtain ⟨b, o, ev, _⟩ := HR.out.thr (by omega)
        obtain ⟨vt, hvt⟩ := HR.out.rt
        rw [ev] at hvt
        have HA := Lib.hid (HR.out.sub (a := some ⟨b, o, none⟩) (n := 1) (c := v.ct) (by rw [List.length_take]; omega) ⟨_, hvt.take 1⟩)
        have HBB := Lib.hid (HR.out.sub (a := some ⟨b, o + 1, none⟩) (n := v.nt - 1) (c := v.ct - 1) (by rw [List.length_drop]; omega) ⟨_, hvt.drop 1⟩)
        have HZA : Hid (Small (v.thr (some ⟨b, o, none⟩) 1 v.ct) (p.thr (p.threads.take 1))) := Lib.hid (HZ.out.sub (by omega) (fun i => by
          by_cases hi : i < (p.threads.take 1).length
          · exact Nat.le_trans ((valid_ops hv).2.2 _ (List.mem_of_mem_take (getD_mem0 [] _ i hi))).1 (by decide)
          · rw [List.getD_eq_getElem?_getD, List.getElem?_eq_none (Nat.le_of_not_lt hi)]; simp))
        have HZB : Hid (Small (v.thr (some ⟨b, o + 1, none⟩) (v.nt - 1) (v.ct - 1)) (p.thr (p.threads.drop 1))) := Lib.hid (HZ.out.sub (by omega) (fun i => by
          by_cases hi : i < (p.threads.drop 1).length
          · exact Nat.le_trans ((valid_ops hv).2.2 _ (List.mem_of_mem_drop (getD_mem0 [] _ i hi))).1 (by decide)
          · rw [List.getD_eq_getElem?_getD, List.getElem?_eq_none (Nat.le_of_not_lt hi)]; simp))
        have HS : Hid (∀ i, i < p.groups.length → (groupsLeft (p.thr (p.threads.take 1))).getD i 0 + (groupsLeft (p.thr (p.threads.drop 1))).getD i 0 - p.groups.getD i 0 = (groupsLeft p).getD i 0) := Lib.hid (fun i hi => left_sum hv h2' i hi)
        have HNG : Hid (N = v.ng) := Lib.hid (by rw [← HN.out, l1, hlg.out])
        have HLA := Lib.hid l2
        have HLB := Lib.hid l3
        have HV := Lib.hid hv
        clear hlt hv l1 l2 l3 hvt
        have ckp0 := kp.cell 0 rfl
        have ckp1 := kp.cell 1 rfl
        have ckp2 := kp.cell 2 rfl
        have ckp3 := kp.cell 3 rfl
        have ckp4 := kp.cell 4 rfl
        have ka0 : Blk (w5.alloc (.cells #[.slice v.s v.ns v.cs, .slice v.g v.ng v.cg, .slice v.b v.nb v.cb, .slice v.r v.nr v.cr, .slice v.t v.nt v.ct] 30)) w5.heap.size #[.slice v.s v.ns v.cs, .slice v.g v.ng v.cg, .slice v.b v.nb v.cb, .slice v.r v.nr v.cr, .slice v.t v.nt v.ct] 30 := Blk.new _ _ _
        have fa4 := ka0.fz 4
        have ca4 := ka0.cell 4 rfl
        have kp1 := kp.alloc (.cells #[.slice v.s v.ns v.cs, .slice v.g v.ng v.cg, .slice v.b v.nb v.cb, .slice v.r v.nr v.cr, .slice v.t v.nt v.ct] 30)
        have cp4 := kp1.cell 4 rfl
        rw [ev] at cp4
        have g4 := grown_set (w5.alloc (.cells #[.slice v.s v.ns v.cs, .slice v.g v.ng v.cg, .slice v.b v.nb v.cb, .slice v.r v.nr v.cr, .slice v.t v.nt v.ct] 30)) w5.heap.size 4 (.slice (some ⟨b, o, none⟩) 1 v.ct)
        have kpw : w1.heap.size < w5.heap.size := kp.lt
        have kp2 : Blk ((w5.alloc (.cells #[.slice v.s v.ns v.cs, .slice v.g v.ng v.cg, .slice v.b v.nb v.cb, .slice v.r v.nr v.cr, .slice v.t v.nt v.ct] 30)).setCell ⟨w5.heap.size, 4, none⟩ (.slice (some ⟨b, o, none⟩) 1 v.ct)) w1.heap.size #[.slice v.s v.ns v.cs, .slice v.g v.ng v.cg, .slice v.b v.nb v.cb, .slice v.r v.nr v.cr, .slice v.t v.nt v.ct] 30 := kp1.grown g4 (by simp; omega)
        have cq0 := kp2.cell 0 rfl
        have cq1 := kp2.cell 1 rfl
        have cq2 := kp2.cell 2 rfl
        have cq3 := kp2.cell 3 rfl
        have cq4 := kp2.cell 4 rfl
        go_wp2_with fail
        clear ka0 fa4 ca4 kp1 cp4 g4 kp2 cq0 cq1 cq2 cq3 cq4
        clear ckp0 ckp1 ckp2 ckp3 ckp4
        have hNA : (groupsLeft (p.thr (p.threads.take 1))).length = N := HLA.out.trans (hlg.out.trans HNG.out.symm)
        have hNB : (groupsLeft (p.thr (p.threads.drop 1))).length = N := HLB.out.trans (hlg.out.trans HNG.out.symm)
        have HNA := Lib.hid hNA
        have HNB := Lib.hid hNB
        clear hNA hNB
        have bb : Below w5.heap.size w5 (w5.alloc (.cells #[.slice v.s v.ns v.cs, .slice v.g v.ng v.cg, .slice v.b v.nb v.cb, .slice v.r v.nr v.cr, .slice (some ⟨b, o, none⟩) 1 v.ct] 30)) := (Below.refl _ _).alloc (Nat.le_refl _) _
        have ka : Blk (w5.alloc (.cells #[.slice v.s v.ns v.cs, .slice v.g v.ng v.cg, .slice v.b v.nb v.cb, .slice v.r v.nr v.cr, .slice (some ⟨b, o, none⟩) 1 v.ct] 30)) w5.heap.size #[.slice v.s v.ns v.cs, .slice v.g v.ng v.cg, .slice v.b v.nb v.cb, .slice v.r v.nr v.cr, .slice (some ⟨b, o, none⟩) 1 v.ct] 30 := Blk.new _ _ _
        replace HR := Lib.hid (HR.out.below bb)
        replace HO := Lib.hid (HO.out.below bb)
        replace HL1 := Lib.hid (HL1.out.below bb)
        replace HA := Lib.hid (HA.out.below bb)
        replace HBB := Lib.hid (HBB.out.below bb)
        replace kp := kp.below bb
        replace HB := Lib.hid (HB.out.trans (bb.mono HB.out.size))
        clear bb
        have bb : Below (w5.alloc (.cells #[.slice v.s v.ns v.cs, .slice v.g v.ng v.cg, .slice v.b v.nb v.cb, .slice v.r v.nr v.cr, .slice (some ⟨b, o, none⟩) 1 v.ct] 30)).heap.size (w5.alloc (.cells #[.slice v.s v.ns v.cs, .slice v.g v.ng v.cg, .slice v.b v.nb v.cb, .slice v.r v.nr v.cr, .slice (some ⟨b, o, none⟩) 1 v.ct] 30)) ((w5.alloc (.cells #[.slice v.s v.ns v.cs, .slice v.g v.ng v.cg, .slice v.b v.nb v.cb, .slice v.r v.nr v.cr, .slice (some ⟨b, o, none⟩) 1 v.ct] 30)).alloc (.cells #[.slice v.s v.ns v.cs, .slice v.g v.ng v.cg, .slice v.b v.nb v.cb, .slice v.r v.nr v.cr, .slice (some ⟨b, o + 1, none⟩) (v.nt - 1) (v.ct - 1)] 30)) := (Below.refl _ _).alloc (Nat.le_refl _) _
        have kb : Blk ((w5.alloc (.cells #[.slice v.s v.ns v.cs, .slice v.g v.ng v.cg, .slice v.b v.nb v.cb, .slice v.r v.nr v.cr, .slice (some ⟨b, o, none⟩) 1 v.ct] 30)).alloc (.cells #[.slice v.s v.ns v.cs, .slice v.g v.ng v.cg, .slice v.b v.nb v.cb, .slice v.r v.nr v.cr, .slice (some ⟨b, o + 1, none⟩) (v.nt - 1) (v.ct - 1)] 30)) (w5.alloc (.cells #[.slice v.s v.ns v.cs, .slice v.g v.ng v.cg, .slice v.b v.nb v.cb, .slice v.r v.nr v.cr, .slice (some ⟨b, o, none⟩) 1 v.ct] 30)).heap.size #[.slice v.s v.ns v.cs, .slice v.g v.ng v.cg, .slice v.b v.nb v.cb, .slice v.r v.nr v.cr, .slice (some ⟨b, o + 1, none⟩) (v.nt - 1) (v.ct - 1)] 30 := Blk.new _ _ _
        replace HR := Lib.hid (HR.out.below bb)
        replace HO := Lib.hid (HO.out.below bb)
        replace HL1 := Lib.hid (HL1.out.below bb)
        replace HA := Lib.hid (HA.out.below bb)
        replace HBB := Lib.hid (HBB.out.below bb)
        replace kp := kp.below bb
        replace ka := ka.below bb
        replace HB := Lib.hid (HB.out.trans (bb.mono HB.out.size))
        clear bb
        replace kb : Blk ((w5.alloc (.cells #[.slice v.s v.ns v.cs, .slice v.g v.ng v.cg, .slice v.b v.nb v.cb, .slice v.r v.nr v.cr, .slice (some ⟨b, o, none⟩) 1 v.ct] 30)).alloc (.cells #[.slice v.s v.ns v.cs, .slice v.g v.ng v.cg, .slice v.b v.nb v.cb, .slice v.r v.nr v.cr, .slice (some ⟨b, o + 1, none⟩) (v.nt - 1) (v.ct - 1)] 30)) (w5.heap.size + 1) #[.slice v.s v.ns v.cs, .slice v.g v.ng v.cg, .slice v.b v.nb v.cb, .slice v.r v.nr v.cr, .slice (some ⟨b, o + 1, none⟩) (v.nt - 1) (v.ct - 1)] 30 := by simpa using kb
        refine (implGroupsLeft_any N (v.thr (some ⟨b, o, none⟩) 1 v.ct) (p.thr (p.threads.take 1)) _ HNA.out HA.out HZA.out).mono ?_
        rintro e w6 ⟨a4, c4, rfl, ol, hb⟩
        have HL4 := Lib.hid (Rd.of_owns ol)
        clear ol
        replace HR := Lib.hid (HR.out.below hb)
        replace HO := Lib.hid (HO.out.below hb)
        replace HL1 := Lib.hid (HL1.out.below hb)
        replace HA := Lib.hid (HA.out.below hb)
        replace HBB := Lib.hid (HBB.out.below hb)
        replace kp := kp.below hb
        replace ka := ka.below hb
        replace kb := kb.below hb
        replace HB := Lib.hid (HB.out.trans (hb.mono HB.out.size))
        clear hb
        have ckp0 := kp.cell 0 rfl
        have ckp1 := kp.cell 1 rfl
        have ckp2 := kp.cell 2 rfl
        have ckp3 := kp.cell 3 rfl
        have ckp4 := kp.cell 4 rfl
        have cka0 := ka.cell 0 rfl
        have cka1 := ka.cell 1 rfl
        have cka2 := ka.cell 2 rfl
        have cka3 := ka.cell 3 rfl
        have cka4 := ka.cell 4 rfl
        have ckb0 := kb.cell 0 rfl
        have ckb1 := kb.cell 1 rfl
        have ckb2 := kb.cell 2 rfl
        have ckb3 := kb.cell 3 rfl
        have ckb4 := kb.cell 4 rfl
        go_wp2_with fail
        refine (implGroupsLeft_any N (v.thr (some ⟨b, o + 1, none⟩) (v.nt - 1) (v.ct - 1)) (p.thr (p.threads.drop 1)) _ HNB.out HBB.out HZB.out).mono ?_
        rintro e w7 ⟨a5, c5, rfl, ol, hb⟩
        have HL5 := Lib.hid (Rd.of_owns ol)
        clear ol
        replace HR := Lib.hid (HR.out.below hb)
        replace HO := Lib.hid (HO.out.below hb)
        replace HL1 := Lib.hid (HL1.out.below hb)
        replace HA := Lib.hid (HA.out.below hb)
        replace HBB := Lib.hid (HBB.out.below hb)
        replace HL4 := Lib.hid (HL4.out.below hb)
        replace kp := kp.below hb
        replace ka := ka.below hb
        replace kb := kb.below hb
        replace HB := Lib.hid (HB.out.trans (hb.mono HB.out.size))
        clear hb
        clear ckp0 ckp1 ckp2 ckp3 ckp4 cka0 cka1 cka2 cka3 cka4 ckb0 ckb1 ckb2 ckb3 ckb4
        have ckp0 := kp.cell 0 rfl
        have ckp1 := kp.cell 1 rfl
        have ckp2 := kp.cell 2 rfl
        have ckp3 := kp.cell 3 rfl
        have ckp4 := kp.cell 4 rfl
        have cka0 := ka.cell 0 rfl
        have cka1 := ka.cell 1 rfl
        have cka2 := ka.cell 2 rfl
        have cka3 := ka.cell 3 rfl
        have cka4 := ka.cell 4 rfl
        have ckb0 := kb.cell 0 rfl
        have ckb1 := kb.cell 1 rfl
        have ckb2 := kb.cell 2 rfl
        have ckb3 := kb.cell 3 rfl
        have ckb4 := kb.cell 4 rfl
        go_wp2_with fail
        go_loopw [9] (fun vi wr => ∃ l : Nat, l ≤ N ∧ vi = .int .i64 l ∧ ∃ d, wr = w7.drewN d) (fun vi _ => N - (intOf vi).toNat)
        case atStart => exact ⟨0, Nat.zero_le _, rfl, 0, rfl⟩
        case round =>
          obtain ⟨l, hl, rfl, d, rfl⟩ := hrel
          by_cases hlt : l < N
          · have hgl : l < p.groups.length := by have := hlg.out; have := HNG.out; omega
            obtain ⟨b1, o1, e1, g1⟩ := HL1.out.int (by have := HN.out; omega)
            obtain ⟨b4, o4, e4, g4⟩ := HL4.out.int (by have := HNA.out; omega)
            obtain ⟨b5, o5, e5, g5⟩ := HL5.out.int (by have := HNB.out; omega)
            obtain ⟨bg, og, eg, gg⟩ := HR.out.rg.int (by omega)
            have g1 := g1 l (by have := HN.out; omega)
            have g4 := g4 l (by have := HNA.out; omega)
            have g5 := g5 l (by have := HNB.out; omega)
            have gg := gg l hgl
            have hsum := HS.out l hgl
            have hs1 := left_bound HV.out l
            have hs4 := left_bound (valid_take HV.out) l
            have hs5 := left_bound (valid_drop HV.out (by omega)) l
            have hgs := groups_small HV.out l
            obtain ⟨x1, hx1⟩ : ∃ x1, x1 = (groupsLeft p).getD l 0 := ⟨_, rfl⟩
            obtain ⟨x4, hx4⟩ : ∃ x4, x4 = (groupsLeft (p.thr (p.threads.take 1))).getD l 0 := ⟨_, rfl⟩
            obtain ⟨x5, hx5⟩ : ∃ x5, x5 = (groupsLeft (p.thr (p.threads.drop 1))).getD l 0 := ⟨_, rfl⟩
            obtain ⟨xg, hxg⟩ : ∃ xg, xg = p.groups.getD l 0 := ⟨_, rfl⟩
            rw [← hx1] at g1 hsum hs1
            rw [← hx4] at g4 hsum hs4
            rw [← hx5] at g5 hsum hs5
            rw [← hxg] at gg hsum hgs
            have hng : (l : Int) < (v.ng : Int) := by have := HNG.out; omega
            have lN : (l : Int) < (N : Int) := by omega
            have l0 : (0 : Int) ≤ (l : Int) := by omega
            have w1' : IntKind.i64.wrap (x4 + x5) = x4 + x5 := IntWalk.i64_in _ (by omega)
            have w2' : IntKind.i64.wrap (x4 + x5 - xg) = x4 + x5 - xg := IntWalk.i64_in _ (by omega)
            have ne1 : (x4 + x5 - xg != x1) = false := by simp; omega
            have hkd : Blk w7 w1.heap.size #[.slice v.s v.ns v.cs, .slice v.g v.ng v.cg, .slice v.b v.nb v.cb, .slice v.r v.nr v.cr, .slice v.t v.nt v.ct] 30 := kp
            have ck1 := hkd.cell 1 rfl
            clear hx1 hx4 hx5 hxg hsum hs1 hs4 hs5 hgs hgl hkd
            subst e1 e4 e5
            rw [eg] at ck1
            go_wp2
            go_quiet (fail)
            go_wp2
            refine ⟨⟨l + 1, by omega, by go_num, d + nq, rfl⟩, by simp [intOf]; omega⟩
          · obtain rfl : l = N := by omega
            go_wp2
            go_ret
            exact ⟨rfl, HB.out.trans (below_drewN (Below.refl _ _) d |>.mono HB.out.size)⟩
  · go_enter Try.func12, Try.ntmps12
    go_wp2
    go_ret
    exact ⟨rfl, Below.refl _ _⟩

end Go.Proofs.Ytnobkdkfhgjeeaa
