/- Part of a proof: FnLett. -/
import Derived.Lib.QuietBelow
import Derived.BigQuiet
import Derived.IntWalk
import Derived.Deep.RegionHeld3
import Derived.Deep.AppendLies
import Derived.Test.YtoeockmkhpehbaaQPRun
import Derived.Test.YtoeockmkhpehbaaQEFnLett
set_option maxRecDepth 100000
set_option maxHeartbeats 16000000
namespace Go.Proofs.Ytoeockmkhpehbaa
open Go.RowKit Go.Sort
theorem fnLettersOfLaw (a : Option Addr) (n c : Nat) (bs : List Int) (w : World) (hl : bs.length = n) (h1 : Rd w a (bytesV bs)) (hmx : n ≤ maxLen) (hcap : n ≤ c) (hby : ∀ b ∈ bs, 0 ≤ b ∧ b ≤ 255) :
  Calls Try.prog 6 #[.slice a n c] w fun e w' => e = .returned (.bool true) ∧ Below w.heap.size w w' := by
 unfold maxLen at hmx
 have HL := xH1 hl
 have HBY := xH1 hby
 clear hl hby
 by_cases hn : n ≤ 1048576
 ·have hC := xH1 (Code13.mk HL.out h1 hcap HBY.out hn)
  clear HL HBY h1
  go_enter Try.func6, Try.ntmps6
  go_wp2_with fail
  refine (drawLettersOf_any a n c bs w hC.out).mono ?_
  rintro e w1 ⟨v, vs, p, rfl, o1, hb⟩
  have HB := xH1 hb
  have HR := xH1 o1.own.rd
  have HF := xH1 o1.few
  have HZ := xH1 (o1.small (by omega))
  clear hb o1 hC
  have bb : Below w1.heap.size w1 (w1.alloc (.cells #[.slice v.s v.ns v.cs, .slice v.g v.ng v.cg, .slice v.b v.nb v.cb, .slice v.r v.nr v.cr, .slice v.t v.nt v.ct] 26)) := xA1
  have kp : Blk (w1.alloc (.cells #[.slice v.s v.ns v.cs, .slice v.g v.ng v.cg, .slice v.b v.nb v.cb, .slice v.r v.nr v.cr, .slice v.t v.nt v.ct] 26)) w1.heap.size #[.slice v.s v.ns v.cs, .slice v.g v.ng v.cg, .slice v.b v.nb v.cb, .slice v.r v.nr v.cr, .slice v.t v.nt v.ct] 26 := Blk.new _ _ _
  replace HR := xH1 (HR.out.below bb)
  replace HB := xH1 (HB.out.trans (bb.mono HB.out.size))
  clear bb
  obtain ⟨N, hN⟩ : ∃ N, (lettersOf p).length = N := ⟨_, rfl⟩
  have HN := xH1 hN
  have hN2 : N ≤ 1048576 := by rw [← hN]; exact lettersOf_len HR.out HZ.out
  clear hN
  have ckp0 := kp.cell 0 rfl
  have ckp1 := kp.cell 1 rfl
  have ckp2 := kp.cell 2 rfl
  have ckp3 := kp.cell 3 rfl
  have ckp4 := kp.cell 4 rfl
  go_wp2_with fail
  refine (implLettersOf_any N v p _ HN.out HR.out HZ.out).mono ?_
  rintro e w2 ⟨a1, c1, rfl, ol, hb⟩
  have HL1 := xH1 (Rd.of_owns ol)
  clear ol
  replace HR := xH1 (HR.out.below hb)
  replace kp := kp.below hb
  replace HB := xH1 (HB.out.trans (hb.mono HB.out.size))
  clear hb
  clear ckp0 ckp1 ckp2 ckp3 ckp4
  have ckp0 := kp.cell 0 rfl
  have ckp1 := kp.cell 1 rfl
  have ckp2 := kp.cell 2 rfl
  have ckp3 := kp.cell 3 rfl
  have ckp4 := kp.cell 4 rfl
  go_wp2_with fail
  refine (specLettersOf_any N v p _ HN.out HR.out HZ.out).mono ?_
  rintro e w3 ⟨a2, ca2, rfl, ol, hb⟩
  have HL2 := xH1 (Rd.of_owns ol)
  clear ol
  replace HR := xH1 (HR.out.below hb)
  replace HL1 := xH1 (HL1.out.below hb)
  replace kp := kp.below hb
  replace HB := xH1 (HB.out.trans (hb.mono HB.out.size))
  clear hb
  clear ckp0 ckp1 ckp2 ckp3 ckp4
  have ckp0 := kp.cell 0 rfl
  have ckp1 := kp.cell 1 rfl
  have ckp2 := kp.cell 2 rfl
  have ckp3 := kp.cell 3 rfl
  have ckp4 := kp.cell 4 rfl
  go_wp2_with fail
  refine (wkInts_any a1 a2 N N c1 ca2 (lettersOf p) (lettersOf p) _ (by omega) HN.out HN.out HL1.out HL2.out).mono ?_
  rintro e w4 ⟨rfl, d⟩
  have hb := below_of_drewN (B := w3.heap.size) d
  clear d
  replace HR := xH1 (HR.out.below hb)
  replace HL1 := xH1 (HL1.out.below hb)
  replace HL2 := xH1 (HL2.out.below hb)
  replace kp := kp.below hb
  replace HB := xH1 (HB.out.trans (hb.mono HB.out.size))
  clear hb
  clear ckp0 ckp1 ckp2 ckp3 ckp4
  rw [decide_eq_true (rfl : lettersOf p = lettersOf p)]
  clear HL2
  have ckp0 := kp.cell 0 rfl
  have ckp1 := kp.cell 1 rfl
  have ckp2 := kp.cell 2 rfl
  have ckp3 := kp.cell 3 rfl
  have ckp4 := kp.cell 4 rfl
  go_wp2_with fail
  refine (implProgValid_any v p _ HR.out HZ.out).mono ?_
  rintro e w5 ⟨rfl, hb⟩
  replace HR := xH1 (HR.out.below hb)
  replace HL1 := xH1 (HL1.out.below hb)
  replace kp := kp.below hb
  replace HB := xH1 (HB.out.trans (hb.mono HB.out.size))
  clear hb
  clear ckp0 ckp1 ckp2 ckp3 ckp4
  cases hv : progValid p with
  | false =>
   have HN0 : Hid (N = 0) := xH1 (by rw [← HN.out]; unfold lettersOf; rw [hv]; rfl)
   clear hv
   have ckp0 := kp.cell 0 rfl
   have ckp1 := kp.cell 1 rfl
   have ckp2 := kp.cell 2 rfl
   have ckp3 := kp.cell 3 rfl
   have ckp4 := kp.cell 4 rfl
   go_wp2_with fail
   refine (specLettersOf_any N v p _ HN.out HR.out HZ.out).mono ?_
   rintro e w7 ⟨a3, ca3, rfl, ol, hb⟩
   have HL2 := xH1 (Rd.of_owns ol)
   clear ol
   replace HR := xH1 (HR.out.below hb)
   replace HL1 := xH1 (HL1.out.below hb)
   replace kp := kp.below hb
   replace HB := xH1 (HB.out.trans (hb.mono HB.out.size))
   clear hb
   clear ckp0 ckp1 ckp2 ckp3 ckp4
   have ckp0 := kp.cell 0 rfl
   have ckp1 := kp.cell 1 rfl
   have ckp2 := kp.cell 2 rfl
   have ckp3 := kp.cell 3 rfl
   have ckp4 := kp.cell 4 rfl
   go_wp2_with fail
   refine (wkInts_any a1 a3 N N c1 ca3 (lettersOf p) (lettersOf p) _ (by omega) HN.out HN.out HL1.out HL2.out).mono ?_
   rintro e w8 ⟨rfl, d⟩
   have hb := below_of_drewN (B := w7.heap.size) d
   clear d
   replace HR := xH1 (HR.out.below hb)
   replace HL1 := xH1 (HL1.out.below hb)
   replace HL2 := xH1 (HL2.out.below hb)
   replace kp := kp.below hb
   replace HB := xH1 (HB.out.trans (hb.mono HB.out.size))
   clear hb
   clear ckp0 ckp1 ckp2 ckp3 ckp4
   rw [decide_eq_true (rfl : lettersOf p = lettersOf p)]
   clear HL2
   obtain rfl := HN0.out
   go_wp2
   go_ret
   exact ⟨rfl, HB.out⟩
  | true =>
   have hNv : N = v.nr := by rw [← HN.out, ← HR.out.lr]; unfold lettersOf; rw [if_pos hv, tallyOf_len]; simp
   subst hNv
   have HV := xH1 hv
   clear hv
   have ckp0 := kp.cell 0 rfl
   have ckp1 := kp.cell 1 rfl
   have ckp2 := kp.cell 2 rfl
   have ckp3 := kp.cell 3 rfl
   have ckp4 := kp.cell 4 rfl
   go_wp2_with fail
   refine (implRunTurns_ok v p _ HR.out HV.out).mono ?_
   rintro e w6 ⟨hb, s, tr, sv, L, ar, cr, hwk, rfl, ho, hrun⟩
   have HSR := xH1 ho.st.rd
   have HWK := xH1 hwk
   have HRUN := xH1 hrun
   clear ho hwk hrun
   replace HR := xH1 (HR.out.below hb)
   replace HL1 := xH1 (HL1.out.below hb)
   replace kp := kp.below hb
   replace HB := xH1 (HB.out.trans (hb.mono HB.out.size))
   clear hb
   clear ckp0 ckp1 ckp2 ckp3 ckp4
   have bb : Below w6.heap.size w6 (w6.alloc (.cells #[.slice sv.pl.a sv.pl.n sv.pl.c, .slice sv.st.a sv.st.n sv.st.c, .slice sv.se.a sv.se.n sv.se.c, .slice sv.on.a sv.on.n sv.on.c, .slice sv.gr.a sv.gr.n sv.gr.c, .slice sv.ba.a sv.ba.n sv.ba.c, .slice sv.ch.a sv.ch.n sv.ch.c, .slice sv.sa.a sv.sa.n sv.sa.c, .int .i64 sv.fl, .slice ar tr.length cr] 39)) := xA1
   have kr : Blk (w6.alloc (.cells #[.slice sv.pl.a sv.pl.n sv.pl.c, .slice sv.st.a sv.st.n sv.st.c, .slice sv.se.a sv.se.n sv.se.c, .slice sv.on.a sv.on.n sv.on.c, .slice sv.gr.a sv.gr.n sv.gr.c, .slice sv.ba.a sv.ba.n sv.ba.c, .slice sv.ch.a sv.ch.n sv.ch.c, .slice sv.sa.a sv.sa.n sv.sa.c, .int .i64 sv.fl, .slice ar tr.length cr] 39)) w6.heap.size #[.slice sv.pl.a sv.pl.n sv.pl.c, .slice sv.st.a sv.st.n sv.st.c, .slice sv.se.a sv.se.n sv.se.c, .slice sv.on.a sv.on.n sv.on.c, .slice sv.gr.a sv.gr.n sv.gr.c, .slice sv.ba.a sv.ba.n sv.ba.c, .slice sv.ch.a sv.ch.n sv.ch.c, .slice sv.sa.a sv.sa.n sv.sa.c, .int .i64 sv.fl, .slice ar tr.length cr] 39 := Blk.new _ _ _
   replace HR := xH1 (HR.out.below bb)
   replace HL1 := xH1 (HL1.out.below bb)
   replace HSR := xH1 (HSR.out.below bb)
   replace kp := kp.below bb
   replace HB := xH1 (HB.out.trans (bb.mono HB.out.size))
   clear bb
   have ckp0 := kp.cell 0 rfl
   have ckp1 := kp.cell 1 rfl
   have ckp2 := kp.cell 2 rfl
   have ckp3 := kp.cell 3 rfl
   have ckp4 := kp.cell 4 rfl
   have ckr0 := kr.cell 0 rfl
   have ckr1 := kr.cell 1 rfl
   have ckr2 := kr.cell 2 rfl
   have ckr3 := kr.cell 3 rfl
   have ckr4 := kr.cell 4 rfl
   have ckr5 := kr.cell 5 rfl
   have ckr6 := kr.cell 6 rfl
   have ckr7 := kr.cell 7 rfl
   have ckr8 := kr.cell 8 rfl
   have ckr9 := kr.cell 9 rfl
   go_wp2_with fail
   clear ckp0 ckp1 ckp2 ckp3 ckp4 ckr0 ckr1 ckr2 ckr3 ckr4 ckr5 ckr6 ckr7 ckr8 ckr9
   obtain ⟨wb, hnm⟩ : ∃ x, x = (w6.alloc (.cells #[.slice sv.pl.a sv.pl.n sv.pl.c, .slice sv.st.a sv.st.n sv.st.c, .slice sv.se.a sv.se.n sv.se.c, .slice sv.on.a sv.on.n sv.on.c, .slice sv.gr.a sv.gr.n sv.gr.c, .slice sv.ba.a sv.ba.n sv.ba.c, .slice sv.ch.a sv.ch.n sv.ch.c, .slice sv.sa.a sv.sa.n sv.sa.c, .int .i64 sv.fl, .slice ar tr.length cr] 39)) := ⟨_, rfl⟩
   rw [← hnm] at HR HL1 HSR kp kr HB ⊢
   clear hnm
   go_loopw [7] (fun vi wr => ∃ l : Nat, l ≤ v.nr ∧ vi = .int .i64 l ∧ Below wb.heap.size wb wr) (fun vi _ => v.nr - (intOf vi).toNat)
   case atStart => exact ⟨0, Nat.zero_le _, rfl, Below.refl _ _⟩
   case round =>
    obtain ⟨l, hl, rfl, hbw⟩ := hrel
    have HBW := xH1 hbw
    replace HR := xH1 (HR.out.below hbw)
    replace HL1 := xH1 (HL1.out.below hbw)
    replace HSR := xH1 (HSR.out.below hbw)
    replace kp := kp.below hbw
    replace kr := kr.below hbw
    replace HB := xH1 (HB.out.trans (hbw.mono HB.out.size))
    clear hbw
    by_cases hlt : l < v.nr
    ·have lN : (l : Int) < (v.nr : Int) := by omega
     have ckp0 := kp.cell 0 rfl
     have ckp1 := kp.cell 1 rfl
     have ckp2 := kp.cell 2 rfl
     have ckp3 := kp.cell 3 rfl
     have ckp4 := kp.cell 4 rfl
     have ckr0 := kr.cell 0 rfl
     have ckr1 := kr.cell 1 rfl
     have ckr2 := kr.cell 2 rfl
     have ckr3 := kr.cell 3 rfl
     have ckr4 := kr.cell 4 rfl
     have ckr5 := kr.cell 5 rfl
     have ckr6 := kr.cell 6 rfl
     have ckr7 := kr.cell 7 rfl
     have ckr8 := kr.cell 8 rfl
     have ckr9 := kr.cell 9 rfl
     go_wp2_with fail
     refine (implIsOver_ok v p sv L s _ HR.out HSR.out HRUN.out.fits).mono ?_
     rintro e wo ⟨rfl, hb⟩
     replace HBW := xH1 (HBW.out.trans (hb.mono HBW.out.size))
     replace HR := xH1 (HR.out.below hb)
     replace HL1 := xH1 (HL1.out.below hb)
     replace HSR := xH1 (HSR.out.below hb)
     replace kp := kp.below hb
     replace kr := kr.below hb
     replace HB := xH1 (HB.out.trans (hb.mono HB.out.size))
     clear hb
     clear ckp0 ckp1 ckp2 ckp3 ckp4 ckr0 ckr1 ckr2 ckr3 ckr4 ckr5 ckr6 ckr7 ckr8 ckr9
     clear lN
     cases ho : overB s with
     | false =>
      have ckp0 := kp.cell 0 rfl
      have ckp1 := kp.cell 1 rfl
      have ckp2 := kp.cell 2 rfl
      have ckp3 := kp.cell 3 rfl
      have ckp4 := kp.cell 4 rfl
      have ckr0 := kr.cell 0 rfl
      have ckr1 := kr.cell 1 rfl
      have ckr2 := kr.cell 2 rfl
      have ckr3 := kr.cell 3 rfl
      have ckr4 := kr.cell 4 rfl
      have ckr5 := kr.cell 5 rfl
      have ckr6 := kr.cell 6 rfl
      have ckr7 := kr.cell 7 rfl
      have ckr8 := kr.cell 8 rfl
      have ckr9 := kr.cell 9 rfl
      clear ho
      go_wp2
      go_ret
      exact ⟨rfl, HB.out⟩
     | true =>
      have HO := xH1 (overB_over ho)
      clear ho
      have hjp : l < p.rooms.length := by rw [HR.out.lr]; exact hlt
      have hj : l < s.chans.length := by rw [HRUN.out.fits.nch]; exact hjp
      obtain ⟨b1, o1, ea, g'⟩ := HSR.out.ch.rd.flat chnC_len noChnP (by rw [HSR.out.inn.ch.len]; have := hj; omega) (by decide)
      obtain ⟨⟨x, q⟩, hxq⟩ : ∃ y, y = L.ch.getD l noChnP := ⟨_, rfl⟩
      have hx : x = s.chans.getD l noChn := by have := HSR.out.inn.ch.fst noChn (nilV, nilV, nilV) l; rw [← this]; exact congrArg Prod.fst hxq
      have hR := HSR.out.inn.ch.at noChn (nilV, nilV, nilV) (i := l) hj
      replace g' := g' l (by rw [HSR.out.inn.ch.len]; exact hj)
      rw [← hxq] at g'
      rw [show L.ch.getD l (noChn, _) = (x, q) from hxq.symm, ← hx] at hR
      have HX := xH1 hx
      have g0 : wo.cell? ⟨b1, o1 + l * 5, none⟩ = some (.int .i64 x.room) := by have := g' 0 (by decide); simpa [chnC] using this
      have g1 : wo.cell? ⟨b1, o1 + l * 5 + 1, none⟩ = some (.slice q.1.a q.1.n q.1.c) := by have := g' 1 (by decide); simpa [chnC] using this
      have g2 : wo.cell? ⟨b1, o1 + l * 5 + 2, none⟩ = some (.slice q.2.1.a q.2.1.n q.2.1.c) := by have := g' 2 (by decide); simpa [chnC] using this
      have g3 : wo.cell? ⟨b1, o1 + l * 5 + 3, none⟩ = some (.slice q.2.2.a q.2.2.n q.2.2.c) := by have := g' 3 (by decide); simpa [chnC] using this
      have g4 : wo.cell? ⟨b1, o1 + l * 5 + 4, none⟩ = some (.bool x.closed) := by have := g' 4 (by decide); simpa [chnC] using this
      have Q0 := xH1 ((show SlR [] wo q.1 (ints x.items) x.items.length from hR.1).rd)
      have QL0 := xH1 (show SlR [] wo q.1 (ints x.items) x.items.length from hR.1).len
      have QC0 := xH1 (show SlR [] wo q.1 (ints x.items) x.items.length from hR.1).cap
      have Q1 := xH1 ((show SlR [] wo q.2.1 (pairs x.senders) x.senders.length from hR.2.1).rd)
      have QL1 := xH1 (show SlR [] wo q.2.1 (pairs x.senders) x.senders.length from hR.2.1).len
      have QC1 := xH1 (show SlR [] wo q.2.1 (pairs x.senders) x.senders.length from hR.2.1).cap
      have Q2 := xH1 ((show SlR [] wo q.2.2 (ints x.getters) x.getters.length from hR.2.2).rd)
      have QL2 := xH1 (show SlR [] wo q.2.2 (ints x.getters) x.getters.length from hR.2.2).len
      have QC2 := xH1 (show SlR [] wo q.2.2 (ints x.getters) x.getters.length from hR.2.2).cap
      clear g' hx hxq hR
      have HOK := xH1 (HRUN.out.fits.ch l hj)
      rw [← HX.out] at HOK
      obtain ⟨b3, o3, e3, g3'⟩ := HL1.out.int (by rw [HN.out]; omega)
      have g3 := g3' l (by rw [HN.out]; exact hlt)
      obtain ⟨x3, hx3⟩ : ∃ x3, x3 = (lettersOf p).getD l 0 := ⟨_, rfl⟩
      rw [← hx3] at g3
      have hnn : (l : Int) < (sv.ch.n : Int) := by rw [HSR.out.ch.len]; omega
      have lN : (l : Int) < (v.nr : Int) := by omega
      have l0 : (0 : Int) ≤ (l : Int) := by omega
      clear g3'
      have hrun1 := run_letters HV.out HWK.out HO.out hjp
      rw [← HX.out] at hrun1
      have hxx : x3 = sumsAt ofLettersOf l p.threads := by
       rw [hx3]
       unfold lettersOf
       rw [if_pos HV.out, tally_at (by simpa using hjp), zeros_at, Int.zero_add]
      rw [← hxx] at hrun1
      obtain ⟨hr1, hr2⟩ := hrun1
      have ql := QL0.out
      rw [← ql] at hr1 hr2
      have t1 : decide (((q.1.n : Nat) : Int) < x3) = false := decide_eq_false (by omega)
      have ckp0 := kp.cell 0 rfl
      have ckp1 := kp.cell 1 rfl
      have ckp2 := kp.cell 2 rfl
      have ckp3 := kp.cell 3 rfl
      have ckp4 := kp.cell 4 rfl
      have ckr0 := kr.cell 0 rfl
      have ckr1 := kr.cell 1 rfl
      have ckr2 := kr.cell 2 rfl
      have ckr3 := kr.cell 3 rfl
      have ckr4 := kr.cell 4 rfl
      have ckr5 := kr.cell 5 rfl
      have ckr6 := kr.cell 6 rfl
      have ckr7 := kr.cell 7 rfl
      have ckr8 := kr.cell 8 rfl
      have ckr9 := kr.cell 9 rfl
      rw [ea] at ckr6
      subst e3
      have HC := xH1 hr2
      clear hx3 hxx hr1 hr2 ql ea Q0 QL0 QC0 Q1 QL1 QC1 Q2 QL2 QC2 HX HOK hj hjp
      obtain ⟨cl, hcl⟩ : ∃ b, b = x.closed := ⟨_, rfl⟩
      rw [← hcl] at g4
      have HCL := xH1 hcl
      clear hcl
      cases cl
      ·have t2 : (((q.1.n : Nat) : Int) != x3) = false := by have := HC.out HCL.out.symm; simp; omega
       go_wp2
       go_quiet (fail)
       go_wp2
       exact ⟨⟨l + 1, by omega, by go_num, HBW.out.trans ((below_drewN xB1 nq).mono HBW.out.size)⟩, by simp [intOf]; omega⟩
      ·go_wp2
       go_quiet (fail)
       go_wp2
       exact ⟨⟨l + 1, by omega, by go_num, HBW.out.trans ((below_drewN xB1 nq).mono HBW.out.size)⟩, by simp [intOf]; omega⟩
    ·obtain rfl : l = v.nr := by omega
     clear hlt hl
     have ckp0 := kp.cell 0 rfl
     have ckp1 := kp.cell 1 rfl
     have ckp2 := kp.cell 2 rfl
     have ckp3 := kp.cell 3 rfl
     have ckp4 := kp.cell 4 rfl
     have ckr0 := kr.cell 0 rfl
     have ckr1 := kr.cell 1 rfl
     have ckr2 := kr.cell 2 rfl
     have ckr3 := kr.cell 3 rfl
     have ckr4 := kr.cell 4 rfl
     have ckr5 := kr.cell 5 rfl
     have ckr6 := kr.cell 6 rfl
     have ckr7 := kr.cell 7 rfl
     have ckr8 := kr.cell 8 rfl
     have ckr9 := kr.cell 9 rfl
     go_wp2
     go_ret
     exact ⟨rfl, HB.out⟩
 ·go_enter Try.func6, Try.ntmps6
  go_wp2
  go_ret
  exact ⟨rfl, Below.refl _ _⟩
end Go.Proofs.Ytoeockmkhpehbaa
