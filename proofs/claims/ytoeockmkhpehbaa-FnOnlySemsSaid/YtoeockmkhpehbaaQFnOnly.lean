/- Part of a proof: FnOnly. -/
import Derived.Deep.RegionHeld3
import Derived.Lib.QuietBelow
import Derived.BigQuiet
import Derived.IntWalk
import Derived.Deep.Cut
import Derived.Deep.AppendLies
import Derived.Test.YtoeockmkhpehbaaQPRun
import Derived.Test.YtoeockmkhpehbaaQEFnOnly
set_option maxRecDepth 100000
set_option maxHeartbeats 16000000
namespace Go.Proofs.Ytoeockmkhpehbaa
open Go.RowKit Go.Sort
theorem fnOnlySemsLaw (a : Option Addr) (n c : Nat) (bs : List Int) (w : World) (hl : bs.length = n) (h1 : Rd w a (bytesV bs)) (hmx : n ≤ maxLen) (hcap : n ≤ c) (hby : ∀ b ∈ bs, 0 ≤ b ∧ b ≤ 255) :
  Calls Try.prog 7 #[.slice a n c] w fun e w' => e = .returned (.bool true) ∧ Below w.heap.size w w' := by
 unfold maxLen at hmx
 have HL := xH1 hl
 have HBY := xH1 hby
 clear hl hby
 by_cases hn : n ≤ 1048576
 ·have hC := xH1 (Code13.mk HL.out h1 hcap HBY.out hn)
  clear HL HBY h1
  go_enter Try.func7, Try.ntmps7
  go_wp2_with fail
  refine (drawOnlySems_any a n c bs w hC.out).mono ?_
  rintro e w1 ⟨v, vs, p, rfl, o1, hb⟩
  have HB := xH1 hb
  have HR := xH1 o1.own.rd
  have HF := xH1 o1.few
  have HZ := xH1 (o1.small (by omega))
  clear hb o1 hC
  have bb : Below w1.heap.size w1 (w1.alloc (.cells #[.slice v.s v.ns v.cs, .slice v.g v.ng v.cg, .slice v.b v.nb v.cb, .slice v.r v.nr v.cr, .slice v.t v.nt v.ct] 26)) := xA1
  have kp : Blk (w1.alloc (.cells #[.slice v.s v.ns v.cs, .slice v.g v.ng v.cg, .slice v.b v.nb v.cb, .slice v.r v.nr v.cr, .slice v.t v.nt v.ct] 26)) w1.heap.size #[.slice v.s v.ns v.cs, .slice v.g v.ng v.cg, .slice v.b v.nb v.cb, .slice v.r v.nr v.cr, .slice v.t v.nt v.ct] 26 := Blk.new _ _ _
  replace HR := xH1 (HR.out.below bb)
  replace HB := xH1 (HB.out.trans (bb.mono HB.out.size))
  clear bb
  have ckp0 := kp.cell 0 rfl
  have ckp1 := kp.cell 1 rfl
  have ckp2 := kp.cell 2 rfl
  have ckp3 := kp.cell 3 rfl
  have ckp4 := kp.cell 4 rfl
  go_wp2_with fail
  refine (implOnlySems_any v p _ HR.out HZ.out).mono ?_
  rintro e w2 ⟨rfl, hb⟩
  replace HR := xH1 (HR.out.below hb)
  replace kp := kp.below hb
  replace HB := xH1 (HB.out.trans (hb.mono HB.out.size))
  clear hb
  clear ckp0 ckp1 ckp2 ckp3 ckp4
  have ckp0 := kp.cell 0 rfl
  have ckp1 := kp.cell 1 rfl
  have ckp2 := kp.cell 2 rfl
  have ckp3 := kp.cell 3 rfl
  have ckp4 := kp.cell 4 rfl
  go_wp2_with fail
  refine (specOnlySems_any v p _ HR.out HZ.out).mono ?_
  rintro e w3 ⟨rfl, hb⟩
  replace HR := xH1 (HR.out.below hb)
  replace kp := kp.below hb
  replace HB := xH1 (HB.out.trans (hb.mono HB.out.size))
  clear hb
  clear ckp0 ckp1 ckp2 ckp3 ckp4
  cases hon : onlySems p with
  | false =>
   have HON := xH1 hon
   clear hon
   have ckp0 := kp.cell 0 rfl
   have ckp1 := kp.cell 1 rfl
   have ckp2 := kp.cell 2 rfl
   have ckp3 := kp.cell 3 rfl
   have ckp4 := kp.cell 4 rfl
   go_wp2_with fail
   refine (specOnlySems_any v p _ HR.out HZ.out).mono ?_
   rintro e w4 ⟨rfl, hb⟩
   replace HR := xH1 (HR.out.below hb)
   replace kp := kp.below hb
   replace HB := xH1 (HB.out.trans (hb.mono HB.out.size))
   clear hb
   clear ckp0 ckp1 ckp2 ckp3 ckp4
   rw [HON.out]
   go_wp2
   go_ret
   exact ⟨rfl, HB.out⟩
  | true =>
   have HON := xH1 hon
   have HV : Hid (progValid p = true) := xH1 (by unfold onlySems at hon; exact (Bool.and_eq_true_iff.1 hon).1)
   clear hon
   have ckp0 := kp.cell 0 rfl
   have ckp1 := kp.cell 1 rfl
   have ckp2 := kp.cell 2 rfl
   have ckp3 := kp.cell 3 rfl
   have ckp4 := kp.cell 4 rfl
   go_wp2_with fail
   refine (implStart_ok v p _ HR.out HV.out).mono ?_
   rintro e w4 ⟨sz, L0, rfl, ho, hn, hb⟩
   have HS0 := xH1 ho.rd
   clear ho hn
   replace HR := xH1 (HR.out.below hb)
   replace kp := kp.below hb
   replace HB := xH1 (HB.out.trans (hb.mono HB.out.size))
   clear hb
   clear ckp0 ckp1 ckp2 ckp3 ckp4
   have bb : Below w4.heap.size w4 (w4.alloc (.cells #[.slice sz.pl.a sz.pl.n sz.pl.c, .slice sz.st.a sz.st.n sz.st.c, .slice sz.se.a sz.se.n sz.se.c, .slice sz.on.a sz.on.n sz.on.c, .slice sz.gr.a sz.gr.n sz.gr.c, .slice sz.ba.a sz.ba.n sz.ba.c, .slice sz.ch.a sz.ch.n sz.ch.c, .slice sz.sa.a sz.sa.n sz.sa.c, .int .i64 sz.fl] 37)) := xA1
   have ks : Blk (w4.alloc (.cells #[.slice sz.pl.a sz.pl.n sz.pl.c, .slice sz.st.a sz.st.n sz.st.c, .slice sz.se.a sz.se.n sz.se.c, .slice sz.on.a sz.on.n sz.on.c, .slice sz.gr.a sz.gr.n sz.gr.c, .slice sz.ba.a sz.ba.n sz.ba.c, .slice sz.ch.a sz.ch.n sz.ch.c, .slice sz.sa.a sz.sa.n sz.sa.c, .int .i64 sz.fl] 37)) w4.heap.size #[.slice sz.pl.a sz.pl.n sz.pl.c, .slice sz.st.a sz.st.n sz.st.c, .slice sz.se.a sz.se.n sz.se.c, .slice sz.on.a sz.on.n sz.on.c, .slice sz.gr.a sz.gr.n sz.gr.c, .slice sz.ba.a sz.ba.n sz.ba.c, .slice sz.ch.a sz.ch.n sz.ch.c, .slice sz.sa.a sz.sa.n sz.sa.c, .int .i64 sz.fl] 37 := Blk.new _ _ _
   replace HR := xH1 (HR.out.below bb)
   replace HS0 := xH1 (HS0.out.below bb)
   replace kp := kp.below bb
   replace HB := xH1 (HB.out.trans (bb.mono HB.out.size))
   clear bb
   have ckp0 := kp.cell 0 rfl
   have ckp1 := kp.cell 1 rfl
   have ckp2 := kp.cell 2 rfl
   have ckp3 := kp.cell 3 rfl
   have ckp4 := kp.cell 4 rfl
   have cks0 := ks.cell 0 rfl
   have cks1 := ks.cell 1 rfl
   have cks2 := ks.cell 2 rfl
   have cks3 := ks.cell 3 rfl
   have cks4 := ks.cell 4 rfl
   have cks5 := ks.cell 5 rfl
   have cks6 := ks.cell 6 rfl
   have cks7 := ks.cell 7 rfl
   have cks8 := ks.cell 8 rfl
   go_wp2_with fail
   refine (implRunFirst_ok v p _ HR.out HV.out).mono ?_
   rintro e w6 ⟨hb, s, tr, sv, L, ar, cr, hwk, rfl, ho, hrun⟩
   have HSR := xH1 ho.st.rd
   have HWK := xH1 hwk
   have HRUN := xH1 hrun
   clear ho hwk hrun
   replace HR := xH1 (HR.out.below hb)
   replace HS0 := xH1 (HS0.out.below hb)
   replace kp := kp.below hb
   replace ks := ks.below hb
   replace HB := xH1 (HB.out.trans (hb.mono HB.out.size))
   clear hb
   clear ckp0 ckp1 ckp2 ckp3 ckp4 cks0 cks1 cks2 cks3 cks4 cks5 cks6 cks7 cks8
   have bb : Below w6.heap.size w6 (w6.alloc (.cells #[.slice sv.pl.a sv.pl.n sv.pl.c, .slice sv.st.a sv.st.n sv.st.c, .slice sv.se.a sv.se.n sv.se.c, .slice sv.on.a sv.on.n sv.on.c, .slice sv.gr.a sv.gr.n sv.gr.c, .slice sv.ba.a sv.ba.n sv.ba.c, .slice sv.ch.a sv.ch.n sv.ch.c, .slice sv.sa.a sv.sa.n sv.sa.c, .int .i64 sv.fl, .slice ar tr.length cr] 39)) := xA1
   have kr : Blk (w6.alloc (.cells #[.slice sv.pl.a sv.pl.n sv.pl.c, .slice sv.st.a sv.st.n sv.st.c, .slice sv.se.a sv.se.n sv.se.c, .slice sv.on.a sv.on.n sv.on.c, .slice sv.gr.a sv.gr.n sv.gr.c, .slice sv.ba.a sv.ba.n sv.ba.c, .slice sv.ch.a sv.ch.n sv.ch.c, .slice sv.sa.a sv.sa.n sv.sa.c, .int .i64 sv.fl, .slice ar tr.length cr] 39)) w6.heap.size #[.slice sv.pl.a sv.pl.n sv.pl.c, .slice sv.st.a sv.st.n sv.st.c, .slice sv.se.a sv.se.n sv.se.c, .slice sv.on.a sv.on.n sv.on.c, .slice sv.gr.a sv.gr.n sv.gr.c, .slice sv.ba.a sv.ba.n sv.ba.c, .slice sv.ch.a sv.ch.n sv.ch.c, .slice sv.sa.a sv.sa.n sv.sa.c, .int .i64 sv.fl, .slice ar tr.length cr] 39 := Blk.new _ _ _
   replace HR := xH1 (HR.out.below bb)
   replace HS0 := xH1 (HS0.out.below bb)
   replace HSR := xH1 (HSR.out.below bb)
   replace kp := kp.below bb
   replace ks := ks.below bb
   replace HB := xH1 (HB.out.trans (bb.mono HB.out.size))
   clear bb
   have HONC : Hid (s.onces = List.replicate 3 noOnce) := xH1 (run_onces HV.out HWK.out HON.out)
   have sz3 : Hid (sz.on.n = 3) := xH1 HS0.out.on.len
   have ckp0 := kp.cell 0 rfl
   have ckp1 := kp.cell 1 rfl
   have ckp2 := kp.cell 2 rfl
   have ckp3 := kp.cell 3 rfl
   have ckp4 := kp.cell 4 rfl
   have cks0 := ks.cell 0 rfl
   have cks1 := ks.cell 1 rfl
   have cks2 := ks.cell 2 rfl
   have cks3 := ks.cell 3 rfl
   have cks4 := ks.cell 4 rfl
   have cks5 := ks.cell 5 rfl
   have cks6 := ks.cell 6 rfl
   have cks7 := ks.cell 7 rfl
   have cks8 := ks.cell 8 rfl
   have ckr0 := kr.cell 0 rfl
   have ckr1 := kr.cell 1 rfl
   have ckr2 := kr.cell 2 rfl
   have ckr3 := kr.cell 3 rfl
   have ckr4 := kr.cell 4 rfl
   have ckr5 := kr.cell 5 rfl
   have ckr6 := kr.cell 6 rfl
   have ckr7 := kr.cell 7 rfl
   have ckr8 := kr.cell 8 rfl
   have ckr9 := kr.cell 9 rfl
   go_wp2_with fail
   clear ckp0 ckp1 ckp2 ckp3 ckp4 cks0 cks1 cks2 cks3 cks4 cks5 cks6 cks7 cks8 ckr0 ckr1 ckr2 ckr3 ckr4 ckr5 ckr6 ckr7 ckr8 ckr9
   obtain ⟨wb, hnm⟩ : ∃ x, x = (w6.alloc (.cells #[.slice sv.pl.a sv.pl.n sv.pl.c, .slice sv.st.a sv.st.n sv.st.c, .slice sv.se.a sv.se.n sv.se.c, .slice sv.on.a sv.on.n sv.on.c, .slice sv.gr.a sv.gr.n sv.gr.c, .slice sv.ba.a sv.ba.n sv.ba.c, .slice sv.ch.a sv.ch.n sv.ch.c, .slice sv.sa.a sv.sa.n sv.sa.c, .int .i64 sv.fl, .slice ar tr.length cr] 39)) := ⟨_, rfl⟩
   rw [← hnm] at HR HS0 HSR kp ks kr HB ⊢
   clear hnm
   go_loopw [9] (fun vi wr => ∃ l : Nat, l ≤ 3 ∧ vi = .int .i64 l ∧ Below wb.heap.size wb wr) (fun vi _ => 3 - (intOf vi).toNat)
   case atStart => exact ⟨0, Nat.zero_le _, rfl, Below.refl _ _⟩
   case round =>
    obtain ⟨l, hl, rfl, hbw⟩ := hrel
    have HBW := xH1 hbw
    replace HR := xH1 (HR.out.below hbw)
    replace HS0 := xH1 (HS0.out.below hbw)
    replace HSR := xH1 (HSR.out.below hbw)
    replace kp := kp.below hbw
    replace ks := ks.below hbw
    replace kr := kr.below hbw
    replace HB := xH1 (HB.out.trans (hbw.mono HB.out.size))
    clear hbw
    by_cases hlt : l < 3
    ·have hj : l < s.onces.length := by rw [HONC.out]; simpa using hlt
     have hj0 : l < (startOf p).onces.length := hlt
     have hrep : (List.replicate 3 noOnce).getD l noOnce = noOnce := by simp only [List.getD, List.getElem?_replicate]; split <;> rfl
     obtain ⟨b2, o2, ez, g'⟩ := HS0.out.on.rd.flat onceC_len noOnceP (by rw [HS0.out.inn.on.len]; have := hj0; omega) (by decide)
     obtain ⟨⟨x0, q0⟩, hxq0⟩ : ∃ y, y = L0.on.getD l noOnceP := ⟨_, rfl⟩
     have hx0 : x0 = (startOf p).onces.getD l noOnce := by have := HS0.out.inn.on.fst noOnce nilV l; rw [← this]; exact congrArg Prod.fst hxq0
     have hR0 := HS0.out.inn.on.at noOnce nilV (i := l) hj0
     replace g' := g' l (by rw [HS0.out.inn.on.len]; exact hj0)
     rw [← hxq0] at g'
     rw [show L0.on.getD l (noOnce, _) = (x0, q0) from hxq0.symm, ← hx0] at hR0
     have HX0 := xH1 hx0
     have h0 : wr.cell? ⟨b2, o2 + l * 4, none⟩ = some (.int .i64 x0.state) := by have := g' 0 (by decide); simpa [onceC] using this
     have h1 : wr.cell? ⟨b2, o2 + l * 4 + 1, none⟩ = some (.int .i64 x0.owner) := by have := g' 1 (by decide); simpa [onceC] using this
     have h2 : wr.cell? ⟨b2, o2 + l * 4 + 2, none⟩ = some (.int .i64 x0.value) := by have := g' 2 (by decide); simpa [onceC] using this
     have h3 : wr.cell? ⟨b2, o2 + l * 4 + 3, none⟩ = some (.slice q0.a q0.n q0.c) := by have := g' 3 (by decide); simpa [onceC] using this
     have Z0 := xH1 ((show SlR [] wr q0 (ints x0.waits) x0.waits.length from hR0).rd)
     have ZL0 := xH1 (show SlR [] wr q0 (ints x0.waits) x0.waits.length from hR0).len
     have ZC0 := xH1 (show SlR [] wr q0 (ints x0.waits) x0.waits.length from hR0).cap
     clear g' hx0 hxq0 hR0
     obtain ⟨b1, o1, ea, g'⟩ := HSR.out.on.rd.flat onceC_len noOnceP (by rw [HSR.out.inn.on.len]; have := hj; omega) (by decide)
     obtain ⟨⟨x, q⟩, hxq⟩ : ∃ y, y = L.on.getD l noOnceP := ⟨_, rfl⟩
     have hx : x = s.onces.getD l noOnce := by have := HSR.out.inn.on.fst noOnce nilV l; rw [← this]; exact congrArg Prod.fst hxq
     have hR := HSR.out.inn.on.at noOnce nilV (i := l) hj
     replace g' := g' l (by rw [HSR.out.inn.on.len]; exact hj)
     rw [← hxq] at g'
     rw [show L.on.getD l (noOnce, _) = (x, q) from hxq.symm, ← hx] at hR
     have HX := xH1 hx
     have g0 : wr.cell? ⟨b1, o1 + l * 4, none⟩ = some (.int .i64 x.state) := by have := g' 0 (by decide); simpa [onceC] using this
     have g1 : wr.cell? ⟨b1, o1 + l * 4 + 1, none⟩ = some (.int .i64 x.owner) := by have := g' 1 (by decide); simpa [onceC] using this
     have g2 : wr.cell? ⟨b1, o1 + l * 4 + 2, none⟩ = some (.int .i64 x.value) := by have := g' 2 (by decide); simpa [onceC] using this
     have g3 : wr.cell? ⟨b1, o1 + l * 4 + 3, none⟩ = some (.slice q.a q.n q.c) := by have := g' 3 (by decide); simpa [onceC] using this
     have Q0 := xH1 ((show SlR [] wr q (ints x.waits) x.waits.length from hR).rd)
     have QL0 := xH1 (show SlR [] wr q (ints x.waits) x.waits.length from hR).len
     have QC0 := xH1 (show SlR [] wr q (ints x.waits) x.waits.length from hR).cap
     clear g' hx hxq hR
     have ex : x = noOnce := by rw [HX.out, HONC.out]; exact hrep
     have ex0 : x0 = noOnce := by rw [HX0.out]; exact hrep
     subst ex
     subst ex0
     obtain ⟨qa, qn, qc⟩ := q
     obtain rfl : qn = 0 := QL0.out
     obtain ⟨za, zn, zc⟩ := q0
     obtain rfl : zn = 0 := ZL0.out
     have l0 : (0 : Int) ≤ (l : Int) := by omega
     have l3 : (l : Int) < 3 := by omega
     have lN : (l : Int) < (sv.on.n : Int) := by rw [HSR.out.on.len, HONC.out]; simpa using l3
     have hz3 := sz3.out
     have ckp0 := kp.cell 0 rfl
     have ckp1 := kp.cell 1 rfl
     have ckp2 := kp.cell 2 rfl
     have ckp3 := kp.cell 3 rfl
     have ckp4 := kp.cell 4 rfl
     have cks0 := ks.cell 0 rfl
     have cks1 := ks.cell 1 rfl
     have cks2 := ks.cell 2 rfl
     have cks3 := ks.cell 3 rfl
     have cks4 := ks.cell 4 rfl
     have cks5 := ks.cell 5 rfl
     have cks6 := ks.cell 6 rfl
     have cks7 := ks.cell 7 rfl
     have cks8 := ks.cell 8 rfl
     have ckr0 := kr.cell 0 rfl
     have ckr1 := kr.cell 1 rfl
     have ckr2 := kr.cell 2 rfl
     have ckr3 := kr.cell 3 rfl
     have ckr4 := kr.cell 4 rfl
     have ckr5 := kr.cell 5 rfl
     have ckr6 := kr.cell 6 rfl
     have ckr7 := kr.cell 7 rfl
     have ckr8 := kr.cell 8 rfl
     have ckr9 := kr.cell 9 rfl
     rw [ea] at ckr3
     rw [ez, hz3] at cks3
     clear ea ez hz3 hrep hj hj0 Q0 QL0 QC0 Z0 ZL0 ZC0 HX HX0
     have HCO : Hid (∀ d os, Calls Try.prog 28 #[.agg #[.int .i64 0, .int .i64 0, .int .i64 0, .slice za 0 zc], .agg #[.int .i64 0, .int .i64 0, .int .i64 0, .slice qa 0 qc]] (grow (redrawn wr d) os) fun e w'' => e = .returned (.bool true) ∧ ∃ p : Regrown, w'' = grow (redrawn wr p.d) p.os) := xH1 (fun d os => Calls.regrown_of (implOnceSame0_any za qa zc qc (grow (redrawn wr d) os)))
     have rckp0 := cell_regrown ckp0
     have rckp1 := cell_regrown ckp1
     have rckp2 := cell_regrown ckp2
     have rckp3 := cell_regrown ckp3
     have rckp4 := cell_regrown ckp4
     have rcks0 := cell_regrown cks0
     have rcks1 := cell_regrown cks1
     have rcks2 := cell_regrown cks2
     have rcks3 := cell_regrown cks3
     have rcks4 := cell_regrown cks4
     have rcks5 := cell_regrown cks5
     have rcks6 := cell_regrown cks6
     have rcks7 := cell_regrown cks7
     have rcks8 := cell_regrown cks8
     have rckr0 := cell_regrown ckr0
     have rckr1 := cell_regrown ckr1
     have rckr2 := cell_regrown ckr2
     have rckr3 := cell_regrown ckr3
     have rckr4 := cell_regrown ckr4
     have rckr5 := cell_regrown ckr5
     have rckr6 := cell_regrown ckr6
     have rckr7 := cell_regrown ckr7
     have rckr8 := cell_regrown ckr8
     have rckr9 := cell_regrown ckr9
     replace g0 : wr.cell? ⟨b1, o1 + l * 4, none⟩ = some (.int .i64 0) := g0
     replace g1 : wr.cell? ⟨b1, o1 + l * 4 + 1, none⟩ = some (.int .i64 0) := g1
     replace g2 : wr.cell? ⟨b1, o1 + l * 4 + 2, none⟩ = some (.int .i64 0) := g2
     replace g3 : wr.cell? ⟨b1, o1 + l * 4 + 3, none⟩ = some (.slice qa 0 qc) := g3
     replace h0 : wr.cell? ⟨b2, o2 + l * 4, none⟩ = some (.int .i64 0) := h0
     replace h1 : wr.cell? ⟨b2, o2 + l * 4 + 1, none⟩ = some (.int .i64 0) := h1
     replace h2 : wr.cell? ⟨b2, o2 + l * 4 + 2, none⟩ = some (.int .i64 0) := h2
     replace h3 : wr.cell? ⟨b2, o2 + l * 4 + 3, none⟩ = some (.slice za 0 zc) := h3
     have rg0 := cell_regrown g0
     have rh0 := cell_regrown h0
     have rg1 := cell_regrown g1
     have rh1 := cell_regrown h1
     have rg2 := cell_regrown g2
     have rh2 := cell_regrown h2
     have rg3 := cell_regrown g3
     have rh3 := cell_regrown h3
     go_wp2_with fail
     refine wp_region_quiet_below (by kernel_rfl) (by kernel_rfl) ?_
     repeat (go_big_quiet_step (first | (with_reducible exact HCO.out _ _)))
     refine wpQuiet_nil ?_
     intro w6' hw6
     have hbq : Below wr.heap.size wr w6' := by
      obtain ⟨pq, rfl⟩ := hw6
      exact below_regrown _ _ _
     clear hw6
     have HBW2 := xH1 (HBW.out.trans (hbq.mono HBW.out.size))
     go_wp2
     go_roundw
     case rel => first | exact ⟨l + 1, by omega, by go_num, HBW2.out⟩ | ((repeat apply Exists.intro); rw [ea]; exact ⟨⟨l + 1, by omega, by go_num, HBW2.out⟩, rfl⟩)
     case measure => simp [intOf]; omega
    ·obtain rfl : l = 3 := by omega
     clear hlt hl
     obtain ⟨N, hN⟩ : ∃ N, (lettersOf p).length = N := ⟨_, rfl⟩
     have hNv : N = v.nr := by rw [← hN, ← HR.out.lr]; unfold lettersOf; rw [if_pos HV.out, tallyOf_len]; simp
     subst hNv
     have HN := xH1 hN
     have hz3 := sz3.out
     clear hN
     have ckp0 := kp.cell 0 rfl
     have ckp1 := kp.cell 1 rfl
     have ckp2 := kp.cell 2 rfl
     have ckp3 := kp.cell 3 rfl
     have ckp4 := kp.cell 4 rfl
     have cks0 := ks.cell 0 rfl
     have cks1 := ks.cell 1 rfl
     have cks2 := ks.cell 2 rfl
     have cks3 := ks.cell 3 rfl
     have cks4 := ks.cell 4 rfl
     have cks5 := ks.cell 5 rfl
     have cks6 := ks.cell 6 rfl
     have cks7 := ks.cell 7 rfl
     have cks8 := ks.cell 8 rfl
     have ckr0 := kr.cell 0 rfl
     have ckr1 := kr.cell 1 rfl
     have ckr2 := kr.cell 2 rfl
     have ckr3 := kr.cell 3 rfl
     have ckr4 := kr.cell 4 rfl
     have ckr5 := kr.cell 5 rfl
     have ckr6 := kr.cell 6 rfl
     have ckr7 := kr.cell 7 rfl
     have ckr8 := kr.cell 8 rfl
     have ckr9 := kr.cell 9 rfl
     rw [hz3] at cks3
     have hS : ∀ w', Below wr.heap.size wr w' → ((w'.cell? ⟨w1.heap.size, 0, none⟩ = some (.slice v.s v.ns v.cs) ∧ w'.cell? ⟨w1.heap.size, 1, none⟩ = some (.slice v.g v.ng v.cg) ∧ w'.cell? ⟨w1.heap.size, 2, none⟩ = some (.slice v.b v.nb v.cb) ∧ w'.cell? ⟨w1.heap.size, 3, none⟩ = some (.slice v.r v.nr v.cr) ∧ w'.cell? ⟨w1.heap.size, 4, none⟩ = some (.slice v.t v.nt v.ct)) ∧ Below wr.heap.size wr w') := fun w' h => ⟨⟨keepc h ckp0, keepc h ckp1, keepc h ckp2, keepc h ckp3, keepc h ckp4⟩, h⟩
     go_wp2_with fail
     go_region_held3 (fun w' => (w'.cell? ⟨w1.heap.size, 0, none⟩ = some (.slice v.s v.ns v.cs) ∧ w'.cell? ⟨w1.heap.size, 1, none⟩ = some (.slice v.g v.ng v.cg) ∧ w'.cell? ⟨w1.heap.size, 2, none⟩ = some (.slice v.b v.nb v.cb) ∧ w'.cell? ⟨w1.heap.size, 3, none⟩ = some (.slice v.r v.nr v.cr) ∧ w'.cell? ⟨w1.heap.size, 4, none⟩ = some (.slice v.t v.nt v.ct)) ∧ Below wr.heap.size wr w') (first | exact hS _ (xB1.drew) | exact hS _ (keepb (by assumption) (by assumption))) ((go_at_call 21; refine (implLettersOf_any v.nr v p _ HN.out (HR.out.below (And.right (by assumption : _ ∧ Below wr.heap.size wr _))) HZ.out).mono ?_; rintro e w' ⟨a9, c9, rfl, ol, hb9⟩))
     rename_i hSw
     have hbw := hSw.2
     clear hSw hS
     go_wp2
     go_ret
     exact ⟨rfl, HB.out.trans (hbw.mono HB.out.size)⟩
 ·go_enter Try.func7, Try.ntmps7
  go_wp2
  go_ret
  exact ⟨rfl, Below.refl _ _⟩
end Go.Proofs.Ytoeockmkhpehbaa
