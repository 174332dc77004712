/- The law FnProgSame: its walk. -/
import Derived.Test.YtnobkdkfhgjeeabDoorFmtImpl3
import Derived.Test.YtnobkdkfhgjeeabDoorDrawSame
import Derived.Test.YtnobkdkfhgjeeabDoorSpecSame
import Derived.Lib.QuietBelow
import Derived.BigQuiet
import Derived.IntWalk
namespace Go.Proofs.YtnobkdkfhgjeeabDoor
open Go.RowKit Go.Sort

set_option maxRecDepth 100000 in
set_option maxHeartbeats 4000000 in
theorem fnProgSameLaw (a : Option Addr) (n c : Nat) (bs : List Int) (w : World) (hLd : Laid w) (hl : bs.length = n) (h1 : Rd w a (bytesV bs)) (hmx : n ≤ maxLen) (hcap : n ≤ c) (hby : ∀ b ∈ bs, 0 ≤ b ∧ b ≤ 255) :
    Calls Tryd.prog 5 #[.slice a n c] w fun e w' => e = .returned (.bool true) ∧ Below w.heap.size w w' := by
  unfold maxLen at hmx
  have HL := Lib.hid hl
  have HBY := Lib.hid hby
  clear hl hby
  by_cases hn : n ≤ 1048576
  · have hC := Lib.hid (Code13.mk HL.out h1 hcap HBY.out hn)
    clear HL HBY h1
    go_enter Tryd.func5, Tryd.ntmps5
    go_wp2_with fail
    refine (drawProgSame_any a n c bs w hC.out).mono ?_
    rintro e w1 ⟨v, p, u, q, rfl, ⟨hr, hf⟩, ⟨hu, hg⟩, hb⟩
    have HB := Lib.hid hb
    have HR := Lib.hid hr
    have HU := Lib.hid hu
    have HZ := Lib.hid (hf.small' hr (by omega))
    have HZU := Lib.hid (hg.small' hu (by omega))
    have HLD := Lib.hid (hLd.below hb)
    clear hb hr hu hf hg hC hLd
    have bb : Below w1.heap.size w1 (w1.alloc (.cells #[.slice v.s v.ns v.cs, .slice v.g v.ng v.cg, .slice v.b v.nb v.cb, .slice v.r v.nr v.cr, .slice v.t v.nt v.ct] 30)) := (Below.refl _ _).alloc (Nat.le_refl _) _
    have kp : Blk (w1.alloc (.cells #[.slice v.s v.ns v.cs, .slice v.g v.ng v.cg, .slice v.b v.nb v.cb, .slice v.r v.nr v.cr, .slice v.t v.nt v.ct] 30)) w1.heap.size #[.slice v.s v.ns v.cs, .slice v.g v.ng v.cg, .slice v.b v.nb v.cb, .slice v.r v.nr v.cr, .slice v.t v.nt v.ct] 30 := Blk.new _ _ _
    replace HR := Lib.hid (HR.out.below bb)
    replace HU := Lib.hid (HU.out.below bb)
    replace HLD := Lib.hid (HLD.out.below bb)
    replace HB := Lib.hid (HB.out.trans (bb.mono HB.out.size))
    clear bb
    have bb : Below (w1.alloc (.cells #[.slice v.s v.ns v.cs, .slice v.g v.ng v.cg, .slice v.b v.nb v.cb, .slice v.r v.nr v.cr, .slice v.t v.nt v.ct] 30)).heap.size (w1.alloc (.cells #[.slice v.s v.ns v.cs, .slice v.g v.ng v.cg, .slice v.b v.nb v.cb, .slice v.r v.nr v.cr, .slice v.t v.nt v.ct] 30)) ((w1.alloc (.cells #[.slice v.s v.ns v.cs, .slice v.g v.ng v.cg, .slice v.b v.nb v.cb, .slice v.r v.nr v.cr, .slice v.t v.nt v.ct] 30)).alloc (.cells #[.slice u.s u.ns u.cs, .slice u.g u.ng u.cg, .slice u.b u.nb u.cb, .slice u.r u.nr u.cr, .slice u.t u.nt u.ct] 30)) := (Below.refl _ _).alloc (Nat.le_refl _) _
    have kq : Blk ((w1.alloc (.cells #[.slice v.s v.ns v.cs, .slice v.g v.ng v.cg, .slice v.b v.nb v.cb, .slice v.r v.nr v.cr, .slice v.t v.nt v.ct] 30)).alloc (.cells #[.slice u.s u.ns u.cs, .slice u.g u.ng u.cg, .slice u.b u.nb u.cb, .slice u.r u.nr u.cr, .slice u.t u.nt u.ct] 30)) (w1.alloc (.cells #[.slice v.s v.ns v.cs, .slice v.g v.ng v.cg, .slice v.b v.nb v.cb, .slice v.r v.nr v.cr, .slice v.t v.nt v.ct] 30)).heap.size #[.slice u.s u.ns u.cs, .slice u.g u.ng u.cg, .slice u.b u.nb u.cb, .slice u.r u.nr u.cr, .slice u.t u.nt u.ct] 30 := Blk.new _ _ _
    replace HR := Lib.hid (HR.out.below bb)
    replace HU := Lib.hid (HU.out.below bb)
    replace HLD := Lib.hid (HLD.out.below bb)
    replace kp := kp.below bb
    replace HB := Lib.hid (HB.out.trans (bb.mono HB.out.size))
    clear bb
    replace kq : Blk ((w1.alloc (.cells #[.slice v.s v.ns v.cs, .slice v.g v.ng v.cg, .slice v.b v.nb v.cb, .slice v.r v.nr v.cr, .slice v.t v.nt v.ct] 30)).alloc (.cells #[.slice u.s u.ns u.cs, .slice u.g u.ng u.cg, .slice u.b u.nb u.cb, .slice u.r u.nr u.cr, .slice u.t u.nt u.ct] 30)) (w1.heap.size + 1) #[.slice u.s u.ns u.cs, .slice u.g u.ng u.cg, .slice u.b u.nb u.cb, .slice u.r u.nr u.cr, .slice u.t u.nt u.ct] 30 := by simpa using kq
    have ckp0 := kp.cell 0 rfl
    have ckp1 := kp.cell 1 rfl
    have ckp2 := kp.cell 2 rfl
    have ckp3 := kp.cell 3 rfl
    have ckp4 := kp.cell 4 rfl
    have ckq0 := kq.cell 0 rfl
    have ckq1 := kq.cell 1 rfl
    have ckq2 := kq.cell 2 rfl
    have ckq3 := kq.cell 3 rfl
    have ckq4 := kq.cell 4 rfl
    go_wp2_with fail
    refine (implProgSame_any v u p q _ HR.out HU.out HZ.out).mono ?_
    rintro e w2 ⟨rfl, hb⟩
    replace HR := Lib.hid (HR.out.below hb)
    replace HU := Lib.hid (HU.out.below hb)
    replace HLD := Lib.hid (HLD.out.below hb)
    replace kp := kp.below hb
    replace kq := kq.below hb
    replace HB := Lib.hid (HB.out.trans (hb.mono HB.out.size))
    clear hb
    clear ckp0 ckp1 ckp2 ckp3 ckp4 ckq0 ckq1 ckq2 ckq3 ckq4
    by_cases he : p = q
    · rw [decide_eq_true he]
      have HE := Lib.hid he
      clear he
      have cS : Hid (∀ d os, Calls Tryd.prog 14 #[.agg #[.slice v.s v.ns v.cs, .slice v.g v.ng v.cg, .slice v.b v.nb v.cb, .slice v.r v.nr v.cr, .slice v.t v.nt v.ct], .agg #[.slice u.s u.ns u.cs, .slice u.g u.ng u.cg, .slice u.b u.nb u.cb, .slice u.r u.nr u.cr, .slice u.t u.nt u.ct]] (grow (redrawn w2 d) os) fun e w'' => e = .returned (.bool true) ∧ ∃ p : Regrown, w'' = grow (redrawn w2 p.d) p.os) := Lib.hid (fun d os => Calls.regrown_of (by have := specProgSame_any v u p q (grow (redrawn w2 d) os) (HR.out.below (below_regrown _ _ _)) (HU.out.below (below_regrown _ _ _)) HZ.out HZU.out; rw [decide_eq_true HE.out] at this; exact this))
      have cB : Hid (∀ d os, Calls Tryd.prog 13 #[.agg #[.slice u.s u.ns u.cs, .slice u.g u.ng u.cg, .slice u.b u.nb u.cb, .slice u.r u.nr u.cr, .slice u.t u.nt u.ct], .agg #[.slice v.s v.ns v.cs, .slice v.g v.ng v.cg, .slice v.b v.nb v.cb, .slice v.r v.nr v.cr, .slice v.t v.nt v.ct]] (grow (redrawn w2 d) os) fun e w'' => e = .returned (.bool true) ∧ ∃ p : Regrown, w'' = grow (redrawn w2 p.d) p.os) := Lib.hid (fun d os => Calls.regrown_of (by have := implProgSame_any u v q p (grow (redrawn w2 d) os) (HU.out.below (below_regrown _ _ _)) (HR.out.below (below_regrown _ _ _)) HZU.out; rw [decide_eq_true HE.out.symm] at this; exact this))
      have cA : Hid (∀ d os, Calls Tryd.prog 13 #[.agg #[.slice v.s v.ns v.cs, .slice v.g v.ng v.cg, .slice v.b v.nb v.cb, .slice v.r v.nr v.cr, .slice v.t v.nt v.ct], .agg #[.slice v.s v.ns v.cs, .slice v.g v.ng v.cg, .slice v.b v.nb v.cb, .slice v.r v.nr v.cr, .slice v.t v.nt v.ct]] (grow (redrawn w2 d) os) fun e w'' => e = .returned (.bool true) ∧ ∃ p : Regrown, w'' = grow (redrawn w2 p.d) p.os) := Lib.hid (fun d os => Calls.regrown_of (by have := implProgSame_any v v p p (grow (redrawn w2 d) os) (HR.out.below (below_regrown _ _ _)) (HR.out.below (below_regrown _ _ _)) HZ.out; rw [decide_eq_true (rfl : p = p)] at this; exact this))
      obtain ⟨T, hT⟩ : ∃ T, T = fmtProg p := ⟨_, rfl⟩
      have hTT : (T.toList == T.toList) = true := by simp
      have cF : Hid (∀ d os, Calls Tryd.prog 9 #[.agg #[.slice v.s v.ns v.cs, .slice v.g v.ng v.cg, .slice v.b v.nb v.cb, .slice v.r v.nr v.cr, .slice v.t v.nt v.ct]] (grow (redrawn w2 d) os) fun e w'' => e = .returned (.string T) ∧ ∃ p : Regrown, w'' = grow (redrawn w2 p.d) p.os) := Lib.hid (fun d os => Calls.regrown_of (by rw [hT]; exact implFormatProg_any v p (grow (redrawn w2 d) os) (HLD.out.below (below_regrown _ _ _)) (HR.out.below (below_regrown _ _ _)) HZ.out))
      have cG : Hid (∀ d os, Calls Tryd.prog 9 #[.agg #[.slice u.s u.ns u.cs, .slice u.g u.ng u.cg, .slice u.b u.nb u.cb, .slice u.r u.nr u.cr, .slice u.t u.nt u.ct]] (grow (redrawn w2 d) os) fun e w'' => e = .returned (.string T) ∧ ∃ p : Regrown, w'' = grow (redrawn w2 p.d) p.os) := Lib.hid (fun d os => Calls.regrown_of (by rw [hT, HE.out]; exact implFormatProg_any u q (grow (redrawn w2 d) os) (HLD.out.below (below_regrown _ _ _)) (HU.out.below (below_regrown _ _ _)) HZU.out))
      clear hT
      have ckp0 := kp.cell 0 rfl
      have ckp1 := kp.cell 1 rfl
      have ckp2 := kp.cell 2 rfl
      have ckp3 := kp.cell 3 rfl
      have ckp4 := kp.cell 4 rfl
      have ckq0 := kq.cell 0 rfl
      have ckq1 := kq.cell 1 rfl
      have ckq2 := kq.cell 2 rfl
      have ckq3 := kq.cell 3 rfl
      have ckq4 := kq.cell 4 rfl
      have rckp0 := cell_regrown ckp0
      have rckp1 := cell_regrown ckp1
      have rckp2 := cell_regrown ckp2
      have rckp3 := cell_regrown ckp3
      have rckp4 := cell_regrown ckp4
      have rckq0 := cell_regrown ckq0
      have rckq1 := cell_regrown ckq1
      have rckq2 := cell_regrown ckq2
      have rckq3 := cell_regrown ckq3
      have rckq4 := cell_regrown ckq4
      go_wp2_with fail
      refine wp_region_quiet_below (by kernel_rfl) (by kernel_rfl) ?_
      repeat (go_big_quiet_step (first | (with_reducible exact cS.out _ _) | (with_reducible exact cB.out _ _) | (with_reducible exact cA.out _ _) | (with_reducible exact cF.out _ _) | (with_reducible exact cG.out _ _)))
      refine wpQuiet_nil ?_
      intro w6 hw6
      have hbq : Below w2.heap.size w2 w6 := by
        obtain ⟨pq, rfl⟩ := hw6
        exact below_regrown _ _ _
      clear hw6
      have HB6 := Lib.hid (HB.out.trans (hbq.mono HB.out.size))
      go_wp2
      go_ret
      exact ⟨rfl, HB6.out⟩
    · rw [decide_eq_false he]
      have HE := Lib.hid he
      clear he
      have cS : Hid (∀ d os, Calls Tryd.prog 14 #[.agg #[.slice v.s v.ns v.cs, .slice v.g v.ng v.cg, .slice v.b v.nb v.cb, .slice v.r v.nr v.cr, .slice v.t v.nt v.ct], .agg #[.slice u.s u.ns u.cs, .slice u.g u.ng u.cg, .slice u.b u.nb u.cb, .slice u.r u.nr u.cr, .slice u.t u.nt u.ct]] (grow (redrawn w2 d) os) fun e w'' => e = .returned (.bool false) ∧ ∃ p : Regrown, w'' = grow (redrawn w2 p.d) p.os) := Lib.hid (fun d os => Calls.regrown_of (by have := specProgSame_any v u p q (grow (redrawn w2 d) os) (HR.out.below (below_regrown _ _ _)) (HU.out.below (below_regrown _ _ _)) HZ.out HZU.out; rw [decide_eq_false HE.out] at this; exact this))
      have cB : Hid (∀ d os, Calls Tryd.prog 13 #[.agg #[.slice u.s u.ns u.cs, .slice u.g u.ng u.cg, .slice u.b u.nb u.cb, .slice u.r u.nr u.cr, .slice u.t u.nt u.ct], .agg #[.slice v.s v.ns v.cs, .slice v.g v.ng v.cg, .slice v.b v.nb v.cb, .slice v.r v.nr v.cr, .slice v.t v.nt v.ct]] (grow (redrawn w2 d) os) fun e w'' => e = .returned (.bool false) ∧ ∃ p : Regrown, w'' = grow (redrawn w2 p.d) p.os) := Lib.hid (fun d os => Calls.regrown_of (by have := implProgSame_any u v q p (grow (redrawn w2 d) os) (HU.out.below (below_regrown _ _ _)) (HR.out.below (below_regrown _ _ _)) HZU.out; rw [decide_eq_false (fun e => HE.out e.symm)] at this; exact this))
      have cA : Hid (∀ d os, Calls Tryd.prog 13 #[.agg #[.slice v.s v.ns v.cs, .slice v.g v.ng v.cg, .slice v.b v.nb v.cb, .slice v.r v.nr v.cr, .slice v.t v.nt v.ct], .agg #[.slice v.s v.ns v.cs, .slice v.g v.ng v.cg, .slice v.b v.nb v.cb, .slice v.r v.nr v.cr, .slice v.t v.nt v.ct]] (grow (redrawn w2 d) os) fun e w'' => e = .returned (.bool true) ∧ ∃ p : Regrown, w'' = grow (redrawn w2 p.d) p.os) := Lib.hid (fun d os => Calls.regrown_of (by have := implProgSame_any v v p p (grow (redrawn w2 d) os) (HR.out.below (below_regrown _ _ _)) (HR.out.below (below_regrown _ _ _)) HZ.out; rw [decide_eq_true (rfl : p = p)] at this; exact this))
      have ckp0 := kp.cell 0 rfl
      have ckp1 := kp.cell 1 rfl
      have ckp2 := kp.cell 2 rfl
      have ckp3 := kp.cell 3 rfl
      have ckp4 := kp.cell 4 rfl
      have ckq0 := kq.cell 0 rfl
      have ckq1 := kq.cell 1 rfl
      have ckq2 := kq.cell 2 rfl
      have ckq3 := kq.cell 3 rfl
      have ckq4 := kq.cell 4 rfl
      have rckp0 := cell_regrown ckp0
      have rckp1 := cell_regrown ckp1
      have rckp2 := cell_regrown ckp2
      have rckp3 := cell_regrown ckp3
      have rckp4 := cell_regrown ckp4
      have rckq0 := cell_regrown ckq0
      have rckq1 := cell_regrown ckq1
      have rckq2 := cell_regrown ckq2
      have rckq3 := cell_regrown ckq3
      have rckq4 := cell_regrown ckq4
      go_wp2_with fail
      refine wp_region_quiet_below (by kernel_rfl) (by kernel_rfl) ?_
      repeat (go_big_quiet_step (first | (with_reducible exact cS.out _ _) | (with_reducible exact cB.out _ _) | (with_reducible exact cA.out _ _)))
      refine wpQuiet_nil ?_
      intro w6 hw6
      have hbq : Below w2.heap.size w2 w6 := by
        obtain ⟨pq, rfl⟩ := hw6
        exact below_regrown _ _ _
      clear hw6
      have HB6 := Lib.hid (HB.out.trans (hbq.mono HB.out.size))
      go_wp2
      go_ret
      exact ⟨rfl, HB6.out⟩
  · go_enter Tryd.func5, Tryd.ntmps5
    go_wp2
    go_ret
    exact ⟨rfl, Below.refl _ _⟩

end Go.Proofs.YtnobkdkfhgjeeabDoor
