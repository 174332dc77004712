/- Part of a proof: FnBalP. -/
import Derived.Lib.QuietBelow
import Derived.BigQuiet
import Derived.IntWalk
import Derived.StillTailTactics
import Derived.Deep.Cut
import Derived.Deep.RegionHeld3
import Derived.Deep.AppendLies
import Derived.Test.YtoeockmkhpehbaaQPRun
import Derived.Test.YtoeockmkhpehbaaQEFnBalP
set_option maxRecDepth 100000
set_option maxHeartbeats 16000000
namespace Go.Proofs.Ytoeockmkhpehbaa
open Go.RowKit Go.Sort
theorem fnIsBalancedLaw (a : Option Addr) (n c : Nat) (bs : List Int) (w : World) (hl : bs.length = n) (h1 : Rd w a (bytesV bs)) (hmx : n ≤ maxLen) (hcap : n ≤ c) (hby : ∀ b ∈ bs, 0 ≤ b ∧ b ≤ 255) :
  Calls Try.prog 9 #[.slice a n c] w fun e w' => e = .returned (.bool true) ∧ Below w.heap.size w w' := by
 unfold maxLen at hmx
 have HL := xH1 hl
 have HBY := xH1 hby
 clear hl hby
 by_cases hn : n ≤ 1048576
 ·have hC := xH1 (Code13.mk HL.out h1 hcap HBY.out hn)
  clear HL HBY h1
  go_enter Try.func9, Try.ntmps9
  go_wp2_with fail
  refine (drawIsBalanced_any a n c bs w hC.out).mono ?_
  rintro e w1 ⟨v, vs, p, rfl, o1, hb⟩
  have HB := xH1 hb
  have HR := xH1 o1.own.rd
  have HF := xH1 o1.few
  have HZ := xH1 (o1.small (by omega))
  clear hb o1 hC
  have bb : Below w1.heap.size w1 (w1.alloc (.cells #[.slice v.s v.ns v.cs, .slice v.g v.ng v.cg, .slice v.b v.nb v.cb, .slice v.r v.nr v.cr, .slice v.t v.nt v.ct] 26)) := xA1
  have kp : Blk (w1.alloc (.cells #[.slice v.s v.ns v.cs, .slice v.g v.ng v.cg, .slice v.b v.nb v.cb, .slice v.r v.nr v.cr, .slice v.t v.nt v.ct] 26)) w1.heap.size #[.slice v.s v.ns v.cs, .slice v.g v.ng v.cg, .slice v.b v.nb v.cb, .slice v.r v.nr v.cr, .slice v.t v.nt v.ct] 26 := Blk.new _ _ _
  replace HR := xH1 (HR.out.below bb)
  replace HB := xH1 (HB.out.trans (bb.mono HB.out.size))
  clear bb
  have ckp0 := kp.cell 0 rfl
  have ckp1 := kp.cell 1 rfl
  have ckp2 := kp.cell 2 rfl
  have ckp3 := kp.cell 3 rfl
  have ckp4 := kp.cell 4 rfl
  go_wp2_with fail
  refine (implIsBalanced_any v p _ HR.out HZ.out).mono ?_
  rintro e w2 ⟨rfl, hb⟩
  replace HR := xH1 (HR.out.below hb)
  replace kp := kp.below hb
  replace HB := xH1 (HB.out.trans (hb.mono HB.out.size))
  clear hb
  clear ckp0 ckp1 ckp2 ckp3 ckp4
  have ckp0 := kp.cell 0 rfl
  have ckp1 := kp.cell 1 rfl
  have ckp2 := kp.cell 2 rfl
  have ckp3 := kp.cell 3 rfl
  have ckp4 := kp.cell 4 rfl
  go_wp2_with fail
  refine (specIsBalanced_any v p _ HR.out HZ.out).mono ?_
  rintro e w3 ⟨rfl, hb⟩
  replace HR := xH1 (HR.out.below hb)
  replace kp := kp.below hb
  replace HB := xH1 (HB.out.trans (hb.mono HB.out.size))
  clear hb
  clear ckp0 ckp1 ckp2 ckp3 ckp4
  cases hbl : isBalanced p with
  | false =>
   have HBL := xH1 hbl
   clear hbl
   have ckp0 := kp.cell 0 rfl
   have ckp1 := kp.cell 1 rfl
   have ckp2 := kp.cell 2 rfl
   have ckp3 := kp.cell 3 rfl
   have ckp4 := kp.cell 4 rfl
   go_wp2_with fail
   refine (specIsBalanced_any v p _ HR.out HZ.out).mono ?_
   rintro e w4 ⟨rfl, hb⟩
   replace HR := xH1 (HR.out.below hb)
   replace kp := kp.below hb
   replace HB := xH1 (HB.out.trans (hb.mono HB.out.size))
   clear hb
   clear ckp0 ckp1 ckp2 ckp3 ckp4
   rw [HBL.out]
   go_wp2
   go_ret
   exact ⟨rfl, HB.out⟩
  | true =>
   have HBL := xH1 hbl
   have HV : Hid (progValid p = true) := xH1 (by unfold isBalanced at hbl; exact (Bool.and_eq_true_iff.1 hbl).1)
   clear hbl
   have ckp0 := kp.cell 0 rfl
   have ckp1 := kp.cell 1 rfl
   have ckp2 := kp.cell 2 rfl
   have ckp3 := kp.cell 3 rfl
   have ckp4 := kp.cell 4 rfl
   go_wp2_with fail
   refine (implOnlySems_any v p _ HR.out HZ.out).mono ?_
   rintro e w4 ⟨rfl, hb⟩
   replace HR := xH1 (HR.out.below hb)
   replace kp := kp.below hb
   replace HB := xH1 (HB.out.trans (hb.mono HB.out.size))
   clear hb
   clear ckp0 ckp1 ckp2 ckp3 ckp4
   cases hon : onlySems p with
   | false =>
    clear hon
    have ckp0 := kp.cell 0 rfl
    have ckp1 := kp.cell 1 rfl
    have ckp2 := kp.cell 2 rfl
    have ckp3 := kp.cell 3 rfl
    have ckp4 := kp.cell 4 rfl
    go_wp2_with fail
    refine (specIsBalanced_any v p _ HR.out HZ.out).mono ?_
    rintro e w5 ⟨rfl, hb⟩
    replace HR := xH1 (HR.out.below hb)
    replace kp := kp.below hb
    replace HB := xH1 (HB.out.trans (hb.mono HB.out.size))
    clear hb
    clear ckp0 ckp1 ckp2 ckp3 ckp4
    rw [HBL.out]
    go_wp2
    go_ret
    exact ⟨rfl, HB.out⟩
   | true =>
    have HON := xH1 hon
    clear hon
    have ckp0 := kp.cell 0 rfl
    have ckp1 := kp.cell 1 rfl
    have ckp2 := kp.cell 2 rfl
    have ckp3 := kp.cell 3 rfl
    have ckp4 := kp.cell 4 rfl
    go_wp2_with fail
    refine (implRunTurns_ok v p _ HR.out HV.out).mono ?_
    rintro e w6 ⟨hb, s, tr, sv, L, ar, cr, hwk, rfl, ho, hrun⟩
    have HSR := xH1 ho.st.rd
    have HWK := xH1 hwk
    have HRUN := xH1 hrun
    clear ho hwk hrun
    replace HR := xH1 (HR.out.below hb)
    replace kp := kp.below hb
    replace HB := xH1 (HB.out.trans (hb.mono HB.out.size))
    clear hb
    clear ckp0 ckp1 ckp2 ckp3 ckp4
    have bb : Below w6.heap.size w6 (w6.alloc (.cells #[.slice sv.pl.a sv.pl.n sv.pl.c, .slice sv.st.a sv.st.n sv.st.c, .slice sv.se.a sv.se.n sv.se.c, .slice sv.on.a sv.on.n sv.on.c, .slice sv.gr.a sv.gr.n sv.gr.c, .slice sv.ba.a sv.ba.n sv.ba.c, .slice sv.ch.a sv.ch.n sv.ch.c, .slice sv.sa.a sv.sa.n sv.sa.c, .int .i64 sv.fl, .slice ar tr.length cr] 39)) := xA1
    have kr : Blk (w6.alloc (.cells #[.slice sv.pl.a sv.pl.n sv.pl.c, .slice sv.st.a sv.st.n sv.st.c, .slice sv.se.a sv.se.n sv.se.c, .slice sv.on.a sv.on.n sv.on.c, .slice sv.gr.a sv.gr.n sv.gr.c, .slice sv.ba.a sv.ba.n sv.ba.c, .slice sv.ch.a sv.ch.n sv.ch.c, .slice sv.sa.a sv.sa.n sv.sa.c, .int .i64 sv.fl, .slice ar tr.length cr] 39)) w6.heap.size #[.slice sv.pl.a sv.pl.n sv.pl.c, .slice sv.st.a sv.st.n sv.st.c, .slice sv.se.a sv.se.n sv.se.c, .slice sv.on.a sv.on.n sv.on.c, .slice sv.gr.a sv.gr.n sv.gr.c, .slice sv.ba.a sv.ba.n sv.ba.c, .slice sv.ch.a sv.ch.n sv.ch.c, .slice sv.sa.a sv.sa.n sv.sa.c, .int .i64 sv.fl, .slice ar tr.length cr] 39 := Blk.new _ _ _
    replace HR := xH1 (HR.out.below bb)
    replace HSR := xH1 (HSR.out.below bb)
    replace kp := kp.below bb
    replace HB := xH1 (HB.out.trans (bb.mono HB.out.size))
    clear bb
    obtain ⟨hflt, hfree⟩ := run_balanced HV.out HWK.out HBL.out HON.out
    have HFR := xH1 hfree
    have hfl : sv.fl = 0 := HSR.out.fl.trans hflt
    have t8 : (sv.fl != 0) = false := by rw [hfl]; rfl
    clear hflt hfree hfl
    have ckp0 := kp.cell 0 rfl
    have ckp1 := kp.cell 1 rfl
    have ckp2 := kp.cell 2 rfl
    have ckp3 := kp.cell 3 rfl
    have ckp4 := kp.cell 4 rfl
    have ckr0 := kr.cell 0 rfl
    have ckr1 := kr.cell 1 rfl
    have ckr2 := kr.cell 2 rfl
    have ckr3 := kr.cell 3 rfl
    have ckr4 := kr.cell 4 rfl
    have ckr5 := kr.cell 5 rfl
    have ckr6 := kr.cell 6 rfl
    have ckr7 := kr.cell 7 rfl
    have ckr8 := kr.cell 8 rfl
    have ckr9 := kr.cell 9 rfl
    go_wp2_with fail
    clear ckp0 ckp1 ckp2 ckp3 ckp4 ckr0 ckr1 ckr2 ckr3 ckr4 ckr5 ckr6 ckr7 ckr8 ckr9
    obtain ⟨wb, hnm⟩ : ∃ x, x = (w6.alloc (.cells #[.slice sv.pl.a sv.pl.n sv.pl.c, .slice sv.st.a sv.st.n sv.st.c, .slice sv.se.a sv.se.n sv.se.c, .slice sv.on.a sv.on.n sv.on.c, .slice sv.gr.a sv.gr.n sv.gr.c, .slice sv.ba.a sv.ba.n sv.ba.c, .slice sv.ch.a sv.ch.n sv.ch.c, .slice sv.sa.a sv.sa.n sv.sa.c, .int .i64 sv.fl, .slice ar tr.length cr] 39)) := ⟨_, rfl⟩
    rw [← hnm] at HR HSR kp kr HB ⊢
    clear hnm
    have se3 : sv.se.n ≤ 3 := by rw [HSR.out.se.len, HRUN.out.fits.nse]; exact (valid_small HV.out).1
    go_loopw [7] (fun vi wr => ∃ l : Nat, l ≤ sv.se.n ∧ vi = .int .i64 l ∧ Below wb.heap.size wb wr) (fun vi _ => sv.se.n - (intOf vi).toNat)
    case atStart => exact ⟨0, Nat.zero_le _, rfl, Below.refl _ _⟩
    case round =>
     obtain ⟨l, hl, rfl, hbw⟩ := hrel
     have HBW := xH1 hbw
     replace HR := xH1 (HR.out.below hbw)
     replace HSR := xH1 (HSR.out.below hbw)
     replace kp := kp.below hbw
     replace kr := kr.below hbw
     replace HB := xH1 (HB.out.trans (hbw.mono HB.out.size))
     clear hbw
     by_cases hlt : l < sv.se.n
     ·have hj : l < s.sems.length := by rw [← HSR.out.se.len]; exact hlt
      have hjp : l < p.sems.length := by rw [← HRUN.out.fits.nse]; exact hj
      obtain ⟨b1, o1, ea, g'⟩ := HSR.out.se.rd.flat semC_len noSemP (by rw [HSR.out.inn.se.len]; have := hj; omega) (by decide)
      obtain ⟨⟨x, q⟩, hxq⟩ : ∃ y, y = L.se.getD l noSemP := ⟨_, rfl⟩
      have hx : x = s.sems.getD l noSem := by have := HSR.out.inn.se.fst noSem nilV l; rw [← this]; exact congrArg Prod.fst hxq
      have hR := HSR.out.inn.se.at noSem nilV (i := l) hj
      replace g' := g' l (by rw [HSR.out.inn.se.len]; exact hj)
      rw [← hxq] at g'
      rw [show L.se.getD l (noSem, _) = (x, q) from hxq.symm, ← hx] at hR
      have HX := xH1 hx
      have g0 : wr.cell? ⟨b1, o1 + l * 3, none⟩ = some (.int .i64 x.free) := by have := g' 0 (by decide); simpa [semC] using this
      have g1 : wr.cell? ⟨b1, o1 + l * 3 + 1, none⟩ = some (.int .i64 x.limit) := by have := g' 1 (by decide); simpa [semC] using this
      have g2 : wr.cell? ⟨b1, o1 + l * 3 + 2, none⟩ = some (.slice q.a q.n q.c) := by have := g' 2 (by decide); simpa [semC] using this
      have Q0 := xH1 ((show SlR [] wr q (pairs x.queue) x.queue.length from hR).rd)
      have QL0 := xH1 (show SlR [] wr q (pairs x.queue) x.queue.length from hR).len
      have QC0 := xH1 (show SlR [] wr q (pairs x.queue) x.queue.length from hR).cap
      clear g' hx hxq hR
      have HEQ : Hid (overB s = true → x.free = x.limit) := xH1 (fun ho => by rw [HX.out]; exact HFR.out (overB_over ho) l hjp)
      have lN : (l : Int) < (sv.se.n : Int) := by omega
      have l0 : (0 : Int) ≤ (l : Int) := by omega
      have ckp0 := kp.cell 0 rfl
      have ckp1 := kp.cell 1 rfl
      have ckp2 := kp.cell 2 rfl
      have ckp3 := kp.cell 3 rfl
      have ckp4 := kp.cell 4 rfl
      have ckr0 := kr.cell 0 rfl
      have ckr1 := kr.cell 1 rfl
      have ckr2 := kr.cell 2 rfl
      have ckr3 := kr.cell 3 rfl
      have ckr4 := kr.cell 4 rfl
      have ckr5 := kr.cell 5 rfl
      have ckr6 := kr.cell 6 rfl
      have ckr7 := kr.cell 7 rfl
      have ckr8 := kr.cell 8 rfl
      have ckr9 := kr.cell 9 rfl
      rw [ea] at ckr2
      have HCO : Hid (∀ d os, Calls Try.prog 16 #[.agg #[.slice v.s v.ns v.cs, .slice v.g v.ng v.cg, .slice v.b v.nb v.cb, .slice v.r v.nr v.cr, .slice v.t v.nt v.ct], .agg #[.slice sv.pl.a sv.pl.n sv.pl.c, .slice sv.st.a sv.st.n sv.st.c, .slice sv.se.a sv.se.n sv.se.c, .slice sv.on.a sv.on.n sv.on.c, .slice sv.gr.a sv.gr.n sv.gr.c, .slice sv.ba.a sv.ba.n sv.ba.c, .slice sv.ch.a sv.ch.n sv.ch.c, .slice sv.sa.a sv.sa.n sv.sa.c, .int .i64 sv.fl]] (grow (redrawn wr d) os) fun e w'' => e = .returned (.bool (overB s)) ∧ ∃ p : Regrown, w'' = grow (redrawn wr p.d) p.os) := xH1 (fun d os => Calls.regrown_of (implIsOver_ok v p sv L s (grow (redrawn wr d) os) (HR.out.below (below_regrown _ _ _)) (HSR.out.below (below_regrown _ _ _)) HRUN.out.fits))
      rw [ea] at HCO
      have rckp0 := cell_regrown ckp0
      have rckp1 := cell_regrown ckp1
      have rckp2 := cell_regrown ckp2
      have rckp3 := cell_regrown ckp3
      have rckp4 := cell_regrown ckp4
      have rckr0 := cell_regrown ckr0
      have rckr1 := cell_regrown ckr1
      have rckr2 := cell_regrown ckr2
      have rckr3 := cell_regrown ckr3
      have rckr4 := cell_regrown ckr4
      have rckr5 := cell_regrown ckr5
      have rckr6 := cell_regrown ckr6
      have rckr7 := cell_regrown ckr7
      have rckr8 := cell_regrown ckr8
      have rckr9 := cell_regrown ckr9
      have rg0 := cell_regrown g0
      have rg1 := cell_regrown g1
      clear Q0 QL0 QC0 HX hj hjp g2
      obtain ⟨ov, hov⟩ : ∃ b, b = overB s := ⟨_, rfl⟩
      rw [← hov] at HCO HEQ
      clear hov
      cases ov
      ·go_wp2_with fail
       refine wp_region_quiet_below (by kernel_rfl) (by kernel_rfl) ?_
       repeat (go_big_quiet_step (first | (with_reducible exact HCO.out _ _)))
       refine wpQuiet_nil ?_
       intro w6' hw6
       have hbq : Below wr.heap.size wr w6' := by
        obtain ⟨pq, rfl⟩ := hw6
        exact below_regrown _ _ _
       clear hw6
       have HBW2 := xH1 (HBW.out.trans (hbq.mono HBW.out.size))
       go_wp2
       go_roundw
       case rel => first | exact ⟨l + 1, by omega, by go_num, HBW2.out⟩ | ((repeat apply Exists.intro); rw [ea]; exact ⟨⟨l + 1, by omega, by go_num, HBW2.out⟩, rfl⟩)
       case measure => simp [intOf]; omega
      ·have hfe := HEQ.out rfl
       obtain ⟨xf, hxf⟩ : ∃ f, f = x.limit := ⟨_, rfl⟩
       rw [hfe, ← hxf] at g0 rg0
       rw [← hxf] at g1 rg1
       clear hfe hxf
       go_wp2_with fail
       refine wp_region_quiet_below (by kernel_rfl) (by kernel_rfl) ?_
       repeat (go_big_quiet_step (first | (with_reducible exact HCO.out _ _)))
       refine wpQuiet_nil ?_
       intro w6' hw6
       have hbq : Below wr.heap.size wr w6' := by
        obtain ⟨pq, rfl⟩ := hw6
        exact below_regrown _ _ _
       clear hw6
       have HBW2 := xH1 (HBW.out.trans (hbq.mono HBW.out.size))
       go_wp2
       go_roundw
       case rel => first | exact ⟨l + 1, by omega, by go_num, HBW2.out⟩ | ((repeat apply Exists.intro); rw [ea]; exact ⟨⟨l + 1, by omega, by go_num, HBW2.out⟩, rfl⟩)
       case measure => simp [intOf]; omega
     ·obtain rfl : l = sv.se.n := by omega
      clear hlt hl
      have ckp0 := kp.cell 0 rfl
      have ckp1 := kp.cell 1 rfl
      have ckp2 := kp.cell 2 rfl
      have ckp3 := kp.cell 3 rfl
      have ckp4 := kp.cell 4 rfl
      have ckr0 := kr.cell 0 rfl
      have ckr1 := kr.cell 1 rfl
      have ckr2 := kr.cell 2 rfl
      have ckr3 := kr.cell 3 rfl
      have ckr4 := kr.cell 4 rfl
      have ckr5 := kr.cell 5 rfl
      have ckr6 := kr.cell 6 rfl
      have ckr7 := kr.cell 7 rfl
      have ckr8 := kr.cell 8 rfl
      have ckr9 := kr.cell 9 rfl
      go_wp2
      go_ret
      exact ⟨rfl, HB.out⟩
 ·go_enter Try.func9, Try.ntmps9
  go_wp2
  go_ret
  exact ⟨rfl, Below.refl _ _⟩
end Go.Proofs.Ytoeockmkhpehbaa
