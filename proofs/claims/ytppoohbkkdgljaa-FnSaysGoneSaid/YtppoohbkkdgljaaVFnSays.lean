/- Part of a proof: FnSays. -/
import Derived.Lib.QuietBelow
import Derived.BigQuiet
import Derived.IntWalk
import Derived.Test.YtppoohbkkdgljaaVPRun
import Derived.Test.YtppoohbkkdgljaaVCutPlain
import Derived.Test.YtppoohbkkdgljaaVWithoutSpec
import Derived.Test.YtppoohbkkdgljaaVPDraw
set_option maxRecDepth 100000
set_option maxHeartbeats 16000000
namespace Go.Proofs.Ytppoohbkkdgljaa
open Go.RowKit Go.Sort
theorem zjn {p q : Pg} (h : zaM p = some q) : zq p = true ∧ zq q = true ∧ q = p.thr (p.threads.map hush) ∧ ∀ i, ∀ o ∈ q.threads.getD i [], o.kind ≠ 1 := by
 unfold zaM zbm zcr at h
 split at h
 ·next hv =>
  obtain rfl := Option.some.inj h
  obtain ⟨h1, h4, hm⟩ := zjs hv.1
  refine ⟨hv.1, zhX hv.1 (by rw [List.length_map]; exact h1) (by rw [List.length_map]; exact h4) (fun t ht => ?_), rfl, fun i o ho => ?_⟩
  ·obtain ⟨t0, ht0, rfl⟩ := List.mem_map.1 ht
   exact ⟨Nat.le_trans (List.length_filter_le _ _) (hm t0 ht0).1, fun o ho => (hm t0 ht0).2 o (List.mem_filter.1 ho).1⟩
  ·change o ∈ (p.threads.map hush).getD i [] at ho
   rw [List.getD_eq_getElem?_getD, List.getElem?_map] at ho
   cases hg : p.threads[i]? with
   | none => rw [hg] at ho; cases ho
   | some t =>
    rw [hg] at ho
    have h2 := (List.mem_filter.1 (show o ∈ hush t from ho)).2
    unfold zdQ at h2
    simpa using h2
 ·cases h
def zbZ (v : Int) (o : OpD) : Bool := decide (o.kind = 8) && decide (o.arg = v)
def zc1 (ts : List (List OpD)) (v : Int) (t : Nat) : Bool := (ts.take t).any fun l => l.any (zbZ v)
theorem zh9 {α : Type} (f : α → Bool) (l : List α) (d : α) {k : Nat} (hk : k < l.length) : (l.take (k + 1)).any f = ((l.take k).any f || f (l.getD k d)) := by
 rw [← zbg l d hk, List.any_append]
 simp
theorem zjI {ts : List (List OpD)} {v : Int} (h : ∃ i, ∃ o ∈ ts.getD i [], o.kind = 8 ∧ o.arg = v) : zc1 ts v ts.length = true := by
 obtain ⟨i, o, ho, h8, ha⟩ := h
 unfold zc1
 rw [List.take_length, List.any_eq_true]
 by_cases hi : i < ts.length
 ·rw [List.getD_eq_getElem?_getD, List.getElem?_eq_getElem hi] at ho
  refine ⟨_, List.getElem_mem hi, ?_⟩
  rw [List.any_eq_true]
  exact ⟨o, ho, by unfold zbZ; rw [h8, ha]; simp⟩
 ·rw [List.getD_eq_getElem?_getD, List.getElem?_eq_none (by omega)] at ho
  cases ho
theorem fnSaysGoneLaw (a : Option Addr) (n c : Nat) (bs : List Int) (w : World) (hl : bs.length = n) (h1 : Rd w a (zej bs)) (hmx : n ≤ maxLen) (hcap : n ≤ c) (hby : ∀ b ∈ bs, 0 ≤ b ∧ b ≤ 255) :
  Calls Try.prog 3 #[.slice a n c] w fun e w' => e = .returned (.bool true) ∧ Below w.heap.size w w' := by
 unfold maxLen at hmx
 have HL := xH1 hl
 have HBY := xH1 hby
 clear hl hby
 by_cases hn : n ≤ 1048576
 ·have hC := xH1 (zdT.mk HL.out h1 hcap HBY.out hn)
  clear HL HBY h1
  go_enter Try.func3, Try.ntmps3
  go_wp2_with fail
  refine (zfv a n c bs w hC.out).mono ?_
  rintro e w1 ⟨v, vs, p, rfl, o1, hb⟩
  have HB := xH1 hb
  have HR := xH1 o1.own.rd
  have HF := xH1 o1.few
  have HZ := xH1 (o1.small (by omega))
  have HO := xH1 o1.own
  clear hb o1 hC
  have bb : Below w1.heap.size w1 (w1.alloc (.cells #[.slice v.s v.ns v.cs, .slice v.g v.ng v.cg, .slice v.b v.nb v.cb, .slice v.r v.nr v.cr, .slice v.t v.nt v.ct] 26)) := xA1
  have kp : Blk (w1.alloc (.cells #[.slice v.s v.ns v.cs, .slice v.g v.ng v.cg, .slice v.b v.nb v.cb, .slice v.r v.nr v.cr, .slice v.t v.nt v.ct] 26)) w1.heap.size #[.slice v.s v.ns v.cs, .slice v.g v.ng v.cg, .slice v.b v.nb v.cb, .slice v.r v.nr v.cr, .slice v.t v.nt v.ct] 26 := Blk.new _ _ _
  replace HR := xH1 (HR.out.below bb)
  replace HO := xH1 (HO.out.below bb)
  replace HB := xH1 (HB.out.trans (bb.mono HB.out.size))
  clear bb
  have ckp0 := kp.cell 0 rfl
  have ckp1 := kp.cell 1 rfl
  have ckp2 := kp.cell 2 rfl
  have ckp3 := kp.cell 3 rfl
  have ckp4 := kp.cell 4 rfl
  go_wp2_with fail
  refine (zfu v p _ HR.out HZ.out).mono ?_
  rintro e w2 ⟨u, us, rfl, o2, nd2, fr2, hb⟩
  have HU := xH1 o2.rd
  have HOU := xH1 o2
  clear o2 nd2 fr2
  replace HR := xH1 (HR.out.below hb)
  replace HO := xH1 (HO.out.below hb)
  replace kp := kp.below hb
  replace HB := xH1 (HB.out.trans (hb.mono HB.out.size))
  clear hb
  clear ckp0 ckp1 ckp2 ckp3 ckp4
  have bb : Below w2.heap.size w2 (w2.alloc (.cells #[.slice u.s u.ns u.cs, .slice u.g u.ng u.cg, .slice u.b u.nb u.cb, .slice u.r u.nr u.cr, .slice u.t u.nt u.ct] 26)) := xA1
  have ku : Blk (w2.alloc (.cells #[.slice u.s u.ns u.cs, .slice u.g u.ng u.cg, .slice u.b u.nb u.cb, .slice u.r u.nr u.cr, .slice u.t u.nt u.ct] 26)) w2.heap.size #[.slice u.s u.ns u.cs, .slice u.g u.ng u.cg, .slice u.b u.nb u.cb, .slice u.r u.nr u.cr, .slice u.t u.nt u.ct] 26 := Blk.new _ _ _
  replace HR := xH1 (HR.out.below bb)
  replace HO := xH1 (HO.out.below bb)
  replace HU := xH1 (HU.out.below bb)
  replace HOU := xH1 (HOU.out.below bb)
  replace kp := kp.below bb
  replace HB := xH1 (HB.out.trans (bb.mono HB.out.size))
  clear bb
  have ckp0 := kp.cell 0 rfl
  have ckp1 := kp.cell 1 rfl
  have ckp2 := kp.cell 2 rfl
  have ckp3 := kp.cell 3 rfl
  have ckp4 := kp.cell 4 rfl
  have cku0 := ku.cell 0 rfl
  have cku1 := ku.cell 1 rfl
  have cku2 := ku.cell 2 rfl
  have cku3 := ku.cell 3 rfl
  have cku4 := ku.cell 4 rfl
  go_wp2_with fail
  refine (zft v p _ HR.out HZ.out).mono ?_
  rintro e w3 ⟨t, rfl, r3, hb⟩
  have HT := xH1 r3
  clear r3
  replace HR := xH1 (HR.out.below hb)
  replace HO := xH1 (HO.out.below hb)
  replace HU := xH1 (HU.out.below hb)
  replace HOU := xH1 (HOU.out.below hb)
  replace kp := kp.below hb
  replace ku := ku.below hb
  replace HB := xH1 (HB.out.trans (hb.mono HB.out.size))
  clear hb
  clear ckp0 ckp1 ckp2 ckp3 ckp4 cku0 cku1 cku2 cku3 cku4
  have bb : Below w3.heap.size w3 (w3.alloc (.cells #[.slice t.s t.ns t.cs, .slice t.g t.ng t.cg, .slice t.b t.nb t.cb, .slice t.r t.nr t.cr, .slice t.t t.nt t.ct] 26)) := xA1
  have kt : Blk (w3.alloc (.cells #[.slice t.s t.ns t.cs, .slice t.g t.ng t.cg, .slice t.b t.nb t.cb, .slice t.r t.nr t.cr, .slice t.t t.nt t.ct] 26)) w3.heap.size #[.slice t.s t.ns t.cs, .slice t.g t.ng t.cg, .slice t.b t.nb t.cb, .slice t.r t.nr t.cr, .slice t.t t.nt t.ct] 26 := Blk.new _ _ _
  replace HR := xH1 (HR.out.below bb)
  replace HO := xH1 (HO.out.below bb)
  replace HU := xH1 (HU.out.below bb)
  replace HOU := xH1 (HOU.out.below bb)
  replace HT := xH1 (HT.out.below bb)
  replace kp := kp.below bb
  replace ku := ku.below bb
  replace HB := xH1 (HB.out.trans (bb.mono HB.out.size))
  clear bb
  cases hq : zaM p with
  | none =>
   rw [hq] at HU HOU HT
   simp only [Option.isSome_none, Option.getD_none] at HU HOU HT ⊢
   clear hq
   have HZU := xH1 ((zjG 10).small' HU.out (by omega))
   have t1 : decide (noPg = noPg) = true := by simp
   have ckp0 := kp.cell 0 rfl
   have ckp1 := kp.cell 1 rfl
   have ckp2 := kp.cell 2 rfl
   have ckp3 := kp.cell 3 rfl
   have ckp4 := kp.cell 4 rfl
   have cku0 := ku.cell 0 rfl
   have cku1 := ku.cell 1 rfl
   have cku2 := ku.cell 2 rfl
   have cku3 := ku.cell 3 rfl
   have cku4 := ku.cell 4 rfl
   have ckt0 := kt.cell 0 rfl
   have ckt1 := kt.cell 1 rfl
   have ckt2 := kt.cell 2 rfl
   have ckt3 := kt.cell 3 rfl
   have ckt4 := kt.cell 4 rfl
   go_wp2_with fail
   refine (zc7 u t noPg noPg _ HU.out HT.out HZU.out).mono ?_
   rintro e w4 ⟨rfl, hb⟩
   replace HR := xH1 (HR.out.below hb)
   replace HO := xH1 (HO.out.below hb)
   replace HU := xH1 (HU.out.below hb)
   replace HOU := xH1 (HOU.out.below hb)
   replace HT := xH1 (HT.out.below hb)
   replace kp := kp.below hb
   replace ku := ku.below hb
   replace kt := kt.below hb
   replace HB := xH1 (HB.out.trans (hb.mono HB.out.size))
   clear hb
   clear ckp0 ckp1 ckp2 ckp3 ckp4 cku0 cku1 cku2 cku3 cku4 ckt0 ckt1 ckt2 ckt3 ckt4
   have ckp0 := kp.cell 0 rfl
   have ckp1 := kp.cell 1 rfl
   have ckp2 := kp.cell 2 rfl
   have ckp3 := kp.cell 3 rfl
   have ckp4 := kp.cell 4 rfl
   have cku0 := ku.cell 0 rfl
   have cku1 := ku.cell 1 rfl
   have cku2 := ku.cell 2 rfl
   have cku3 := ku.cell 3 rfl
   have cku4 := ku.cell 4 rfl
   have ckt0 := kt.cell 0 rfl
   have ckt1 := kt.cell 1 rfl
   have ckt2 := kt.cell 2 rfl
   have ckt3 := kt.cell 3 rfl
   have ckt4 := kt.cell 4 rfl
   go_wp2_with fail
   refine (zc7 u t noPg noPg _ HU.out HT.out HZU.out).mono ?_
   rintro e w5 ⟨rfl, hb⟩
   replace HR := xH1 (HR.out.below hb)
   replace HO := xH1 (HO.out.below hb)
   replace HU := xH1 (HU.out.below hb)
   replace HOU := xH1 (HOU.out.below hb)
   replace HT := xH1 (HT.out.below hb)
   replace kp := kp.below hb
   replace ku := ku.below hb
   replace kt := kt.below hb
   replace HB := xH1 (HB.out.trans (hb.mono HB.out.size))
   clear hb
   clear ckp0 ckp1 ckp2 ckp3 ckp4 cku0 cku1 cku2 cku3 cku4 ckt0 ckt1 ckt2 ckt3 ckt4
   go_wp2
   go_ret
   exact ⟨rfl, HB.out⟩
  | some q =>
   rw [hq] at HU HOU HT
   simp only [Option.isSome_some, Option.getD_some] at HU HOU HT ⊢
   obtain ⟨hvp, hvq, eq, hk1⟩ := zjn hq
   have HV := xH1 hvq
   have HK1 := xH1 hk1
   have HZU := xH1 (zdK hvq HU.out)
   have t1 : decide (q = q) = true := by simp
   clear hq hvp hvq eq hk1
   have ckp0 := kp.cell 0 rfl
   have ckp1 := kp.cell 1 rfl
   have ckp2 := kp.cell 2 rfl
   have ckp3 := kp.cell 3 rfl
   have ckp4 := kp.cell 4 rfl
   have cku0 := ku.cell 0 rfl
   have cku1 := ku.cell 1 rfl
   have cku2 := ku.cell 2 rfl
   have cku3 := ku.cell 3 rfl
   have cku4 := ku.cell 4 rfl
   have ckt0 := kt.cell 0 rfl
   have ckt1 := kt.cell 1 rfl
   have ckt2 := kt.cell 2 rfl
   have ckt3 := kt.cell 3 rfl
   have ckt4 := kt.cell 4 rfl
   go_wp2_with fail
   refine (zc7 u t q q _ HU.out HT.out HZU.out).mono ?_
   rintro e w4 ⟨rfl, hb⟩
   rw [decide_eq_true (rfl : q = q)]
   replace HR := xH1 (HR.out.below hb)
   replace HO := xH1 (HO.out.below hb)
   replace HU := xH1 (HU.out.below hb)
   replace HOU := xH1 (HOU.out.below hb)
   replace HT := xH1 (HT.out.below hb)
   replace kp := kp.below hb
   replace ku := ku.below hb
   replace kt := kt.below hb
   replace HB := xH1 (HB.out.trans (hb.mono HB.out.size))
   clear hb
   clear ckp0 ckp1 ckp2 ckp3 ckp4 cku0 cku1 cku2 cku3 cku4 ckt0 ckt1 ckt2 ckt3 ckt4
   clear t1
   have ckp0 := kp.cell 0 rfl
   have ckp1 := kp.cell 1 rfl
   have ckp2 := kp.cell 2 rfl
   have ckp3 := kp.cell 3 rfl
   have ckp4 := kp.cell 4 rfl
   have cku0 := ku.cell 0 rfl
   have cku1 := ku.cell 1 rfl
   have cku2 := ku.cell 2 rfl
   have cku3 := ku.cell 3 rfl
   have cku4 := ku.cell 4 rfl
   have ckt0 := kt.cell 0 rfl
   have ckt1 := kt.cell 1 rfl
   have ckt2 := kt.cell 2 rfl
   have ckt3 := kt.cell 3 rfl
   have ckt4 := kt.cell 4 rfl
   go_wp2_with fail
   refine (zgK u q _ HU.out HV.out).mono ?_
   rintro e w6 ⟨hb, s, tr, sv, L, ar, cr, hwk, rfl, ho, hrun⟩
   have HSR := xH1 ho.st.rd
   have HWK := xH1 hwk
   have HRUN := xH1 hrun
   clear ho hwk hrun
   replace HR := xH1 (HR.out.below hb)
   replace HO := xH1 (HO.out.below hb)
   replace HU := xH1 (HU.out.below hb)
   replace HOU := xH1 (HOU.out.below hb)
   replace HT := xH1 (HT.out.below hb)
   replace kp := kp.below hb
   replace ku := ku.below hb
   replace kt := kt.below hb
   replace HB := xH1 (HB.out.trans (hb.mono HB.out.size))
   clear hb
   clear ckp0 ckp1 ckp2 ckp3 ckp4 cku0 cku1 cku2 cku3 cku4 ckt0 ckt1 ckt2 ckt3 ckt4
   clear HT
   clear HOU
   clear HO
   clear HR
   clear kp
   clear kt
   have bb : Below w6.heap.size w6 (w6.alloc (.cells #[.slice sv.pl.a sv.pl.n sv.pl.c, .slice sv.st.a sv.st.n sv.st.c, .slice sv.se.a sv.se.n sv.se.c, .slice sv.on.a sv.on.n sv.on.c, .slice sv.gr.a sv.gr.n sv.gr.c, .slice sv.ba.a sv.ba.n sv.ba.c, .slice sv.ch.a sv.ch.n sv.ch.c, .slice sv.sa.a sv.sa.n sv.sa.c, .int .i64 sv.fl, .slice ar tr.length cr] 39)) := xA1
   have kr : Blk (w6.alloc (.cells #[.slice sv.pl.a sv.pl.n sv.pl.c, .slice sv.st.a sv.st.n sv.st.c, .slice sv.se.a sv.se.n sv.se.c, .slice sv.on.a sv.on.n sv.on.c, .slice sv.gr.a sv.gr.n sv.gr.c, .slice sv.ba.a sv.ba.n sv.ba.c, .slice sv.ch.a sv.ch.n sv.ch.c, .slice sv.sa.a sv.sa.n sv.sa.c, .int .i64 sv.fl, .slice ar tr.length cr] 39)) w6.heap.size #[.slice sv.pl.a sv.pl.n sv.pl.c, .slice sv.st.a sv.st.n sv.st.c, .slice sv.se.a sv.se.n sv.se.c, .slice sv.on.a sv.on.n sv.on.c, .slice sv.gr.a sv.gr.n sv.gr.c, .slice sv.ba.a sv.ba.n sv.ba.c, .slice sv.ch.a sv.ch.n sv.ch.c, .slice sv.sa.a sv.sa.n sv.sa.c, .int .i64 sv.fl, .slice ar tr.length cr] 39 := Blk.new _ _ _
   replace HU := xH1 (HU.out.below bb)
   replace HSR := xH1 (HSR.out.below bb)
   replace ku := ku.below bb
   replace HB := xH1 (HB.out.trans (bb.mono HB.out.size))
   clear bb
   have HSD := xH1 (zjX HV.out HWK.out HK1.out)
   have sa32 : sv.sa.n ≤ 32 := by have h1 := HRUN.out.said; have h2 := HRUN.out.fits.sum32; have h3 := HSR.out.sa.len; omega
   have n4 : u.nt ≤ 4 := by rw [← HU.out.lt]; have := (zaB HV.out).2.2.2.2.1; omega
   have cku0 := ku.cell 0 rfl
   have cku1 := ku.cell 1 rfl
   have cku2 := ku.cell 2 rfl
   have cku3 := ku.cell 3 rfl
   have cku4 := ku.cell 4 rfl
   have ckr0 := kr.cell 0 rfl
   have ckr1 := kr.cell 1 rfl
   have ckr2 := kr.cell 2 rfl
   have ckr3 := kr.cell 3 rfl
   have ckr4 := kr.cell 4 rfl
   have ckr5 := kr.cell 5 rfl
   have ckr6 := kr.cell 6 rfl
   have ckr7 := kr.cell 7 rfl
   have ckr8 := kr.cell 8 rfl
   have ckr9 := kr.cell 9 rfl
   go_wp2_with fail
   clear cku0 cku1 cku2 cku3 cku4 ckr0 ckr1 ckr2 ckr3 ckr4 ckr5 ckr6 ckr7 ckr8 ckr9
   obtain ⟨wb, hnm⟩ : ∃ x, x = (w6.alloc (.cells #[.slice sv.pl.a sv.pl.n sv.pl.c, .slice sv.st.a sv.st.n sv.st.c, .slice sv.se.a sv.se.n sv.se.c, .slice sv.on.a sv.on.n sv.on.c, .slice sv.gr.a sv.gr.n sv.gr.c, .slice sv.ba.a sv.ba.n sv.ba.c, .slice sv.ch.a sv.ch.n sv.ch.c, .slice sv.sa.a sv.sa.n sv.sa.c, .int .i64 sv.fl, .slice ar tr.length cr] 39)) := ⟨_, rfl⟩
   rw [← hnm] at HU HSR ku kr HB ⊢
   clear hnm
   go_loopw [10] (fun vi wr => ∃ l : Nat, l ≤ sv.sa.n ∧ vi = .int .i64 l ∧ Below wb.heap.size wb wr) (fun vi _ => sv.sa.n - (intOf vi).toNat)
   case atStart => exact ⟨0, Nat.zero_le _, rfl, Below.refl _ _⟩
   case round =>
    obtain ⟨l, hl, rfl, hbw⟩ := hrel
    have HBW := xH1 hbw
    replace HU := xH1 (HU.out.below hbw)
    replace HSR := xH1 (HSR.out.below hbw)
    replace ku := ku.below hbw
    replace kr := kr.below hbw
    replace HB := xH1 (HB.out.trans (hbw.mono HB.out.size))
    clear hbw
    by_cases hlt : l < sv.sa.n
    ·have hls : l < s.said.length := by rw [← HSR.out.sa.len]; exact hlt
     obtain ⟨b3, o3, e3, g3'⟩ := HSR.out.sa.rd.int (by omega)
     have g3 := g3' l hls
     obtain ⟨x3, hx3⟩ : ∃ x, x = s.said.getD l 0 := ⟨_, rfl⟩
     rw [← hx3] at g3
     have HST : Hid (zc1 q.threads x3 q.threads.length = true) := xH1 (zjI (HSD.out x3 (by rw [hx3, List.getD_eq_getElem?_getD, List.getElem?_eq_getElem hls]; exact List.getElem_mem hls)))
     have G3 := xH1 g3
     have E3 := xH1 e3
     have lN : (l : Int) < (sv.sa.n : Int) := by omega
     have l0 : (0 : Int) ≤ (l : Int) := by omega
     clear g3' g3 e3 hx3 hls
     have cku0 := ku.cell 0 rfl
     have cku1 := ku.cell 1 rfl
     have cku2 := ku.cell 2 rfl
     have cku3 := ku.cell 3 rfl
     have cku4 := ku.cell 4 rfl
     have ckr0 := kr.cell 0 rfl
     have ckr1 := kr.cell 1 rfl
     have ckr2 := kr.cell 2 rfl
     have ckr3 := kr.cell 3 rfl
     have ckr4 := kr.cell 4 rfl
     have ckr5 := kr.cell 5 rfl
     have ckr6 := kr.cell 6 rfl
     have ckr7 := kr.cell 7 rfl
     have ckr8 := kr.cell 8 rfl
     have ckr9 := kr.cell 9 rfl
     go_wp2_with fail
     clear cku0 cku1 cku2 cku3 cku4 ckr0 ckr1 ckr2 ckr3 ckr4 ckr5 ckr6 ckr7 ckr8 ckr9
     obtain ⟨wo, rfl⟩ : ∃ x, x = wr := ⟨_, rfl⟩
     go_loopw [11, 12] (fun b i wr => ∃ t : Nat, t ≤ u.nt ∧ i = .int .i64 t ∧ b = .bool (zc1 q.threads x3 t) ∧ Below wo.heap.size wo wr) (fun _ i _ => u.nt - (intOf i).toNat)
     case atStart => exact ⟨0, Nat.zero_le _, rfl, rfl, Below.refl _ _⟩
     case round =>
      obtain ⟨t', ht, rfl, rfl, hbw⟩ := hrel
      have HB2 := xH1 hbw
      replace HU := xH1 (HU.out.below hbw)
      replace HSR := xH1 (HSR.out.below hbw)
      replace ku := ku.below hbw
      replace kr := kr.below hbw
      replace HB := xH1 (HB.out.trans (hbw.mono HB.out.size))
      replace G3 := xH1 (zd hbw G3.out)
      clear hbw
      by_cases htl : t' < u.nt
      ·obtain ⟨bt, ot, et, hth⟩ := HU.out.thr (by rw [HU.out.lt]; omega)
       obtain ⟨a2, c2, ct, r2⟩ := hth t' (by rw [HU.out.lt]; exact htl)
       obtain ⟨tl, htl2⟩ : ∃ x, x = q.threads.getD t' [] := ⟨_, rfl⟩
       rw [← htl2] at ct r2
       obtain ⟨m, hm⟩ : ∃ m, m = tl.length := ⟨_, rfl⟩
       rw [← hm] at ct
       have m8 : m ≤ 8 := by rw [hm, htl2]; exact (zaB HV.out).2.2.2.2.2 t'
       have HM := xH1 hm
       have HR2 := xH1 r2
       have HNX : Hid (zc1 q.threads x3 (t' + 1) = (zc1 q.threads x3 t' || tl.any (zbZ x3))) := xH1 (by unfold zc1; rw [zh9 _ _ [] (by rw [HU.out.lt]; exact htl), htl2])
       have tN : (t' : Int) < (u.nt : Int) := by omega
       have t0 : (0 : Int) ≤ (t' : Int) := by omega
       obtain ⟨S, hS⟩ : ∃ S, S = zc1 q.threads x3 t' := ⟨_, rfl⟩
       rw [← hS] at HNX ⊢
       clear hth htl2 hm r2 hS
       have ET := xH1 et
       have CT := xH1 ct
       clear et ct
       have cku0 := ku.cell 0 rfl
       have cku1 := ku.cell 1 rfl
       have cku2 := ku.cell 2 rfl
       have cku3 := ku.cell 3 rfl
       have cku4 := ku.cell 4 rfl
       have ckr0 := kr.cell 0 rfl
       have ckr1 := kr.cell 1 rfl
       have ckr2 := kr.cell 2 rfl
       have ckr3 := kr.cell 3 rfl
       have ckr4 := kr.cell 4 rfl
       have ckr5 := kr.cell 5 rfl
       have ckr6 := kr.cell 6 rfl
       have ckr7 := kr.cell 7 rfl
       have ckr8 := kr.cell 8 rfl
       have ckr9 := kr.cell 9 rfl
       go_wp2_with fail
       clear cku0 cku1 cku2 cku3 cku4 ckr0 ckr1 ckr2 ckr3 ckr4 ckr5 ckr6 ckr7 ckr8 ckr9
       obtain ⟨wm, rfl⟩ : ∃ x, x = wr := ⟨_, rfl⟩
       go_loopw [11, 13] (fun b i wr => ∃ k : Nat, k ≤ m ∧ i = .int .i64 k ∧ b = .bool (S || (tl.take k).any (zbZ x3)) ∧ Below wm.heap.size wm wr) (fun _ i _ => m - (intOf i).toNat)
       case atStart => exact ⟨0, Nat.zero_le _, rfl, by simp, Below.refl _ _⟩
       case round =>
        obtain ⟨k, hk, rfl, rfl, hbw⟩ := hrel
        have HB3 := xH1 hbw
        replace HU := xH1 (HU.out.below hbw)
        replace HSR := xH1 (HSR.out.below hbw)
        replace HR2 := xH1 (HR2.out.below hbw)
        replace ku := ku.below hbw
        replace kr := kr.below hbw
        replace HB := xH1 (HB.out.trans (hbw.mono HB.out.size))
        have g3 := zd hbw G3.out
        have ct := zd hbw CT.out
        have et := ET.out
        have e3 := E3.out
        clear hbw
        have cku0 := ku.cell 0 rfl
        have cku1 := ku.cell 1 rfl
        have cku2 := ku.cell 2 rfl
        have cku3 := ku.cell 3 rfl
        have cku4 := ku.cell 4 rfl
        have ckr0 := kr.cell 0 rfl
        have ckr1 := kr.cell 1 rfl
        have ckr2 := kr.cell 2 rfl
        have ckr3 := kr.cell 3 rfl
        have ckr4 := kr.cell 4 rfl
        have ckr5 := kr.cell 5 rfl
        have ckr6 := kr.cell 6 rfl
        have ckr7 := kr.cell 7 rfl
        have ckr8 := kr.cell 8 rfl
        have ckr9 := kr.cell 9 rfl
        rw [et] at cku4
        rw [e3] at ckr7
        clear et e3
        by_cases hkl : k < m
        ·obtain ⟨b4, o4, e4, g4'⟩ := HR2.out.op (by have := HM.out; omega)
         obtain ⟨h0, h1, h2⟩ := g4' k (by have := HM.out; omega)
         obtain ⟨od, hod⟩ : ∃ x, x = tl.getD k noOp := ⟨_, rfl⟩
         rw [← hod] at h0 h1 h2
         have HNK : Hid ((tl.take (k + 1)).any (zbZ x3) = ((tl.take k).any (zbZ x3) || zbZ x3 od)) := xH1 (by rw [zh9 _ _ noOp (by have := HM.out; omega), hod])
         subst e4
         have kN : (k : Int) < (m : Int) := by omega
         have k0 : (0 : Int) ≤ (k : Int) := by omega
         obtain ⟨S2, hS2⟩ : ∃ x, x = (S || (tl.take k).any (zbZ x3)) := ⟨_, rfl⟩
         rw [← hS2]
         have HF2 : Hid ((S || (tl.take (k + 1)).any (zbZ x3)) = (S2 || zbZ x3 od)) := xH1 (by rw [HNK.out, ← Bool.or_assoc, hS2])
         obtain ⟨kd, on, ag⟩ := od
         dsimp only at h0 h1 h2
         clear g4' hod hS2 HNK
         go_upto_region 20 with fail
         have bz : Below wr.heap.size wr (wr.alloc (.cells #[.int .i64 kd, .int .i64 on, .int .i64 ag] 44)) := xA1
         have kz : Blk (wr.alloc (.cells #[.int .i64 kd, .int .i64 on, .int .i64 ag] 44)) wr.heap.size #[.int .i64 kd, .int .i64 on, .int .i64 ag] 44 := Blk.new _ _ _
         have z0 := kz.cell 0 rfl
         have z2 := kz.cell 2 rfl
         have z7 := zd bz ckr7
         have zg := zd bz g3
         have HBZ := xH1 (HB3.out.trans (bz.mono HB3.out.size))
         clear bz kz h0 h1 h2 g3 ct
         clear cku0 cku1 cku2 cku3 cku4 ckr0 ckr1 ckr2 ckr3 ckr4 ckr5 ckr6 ckr7 ckr8 ckr9
         obtain ⟨wz, hz⟩ : ∃ x, x = wr.alloc (.cells #[.int .i64 kd, .int .i64 on, .int .i64 ag] 44) := ⟨_, rfl⟩
         rw [← hz] at z0 z2 z7 zg HBZ ⊢
         clear hz
         have rz0 := cell_regrown z0
         have rz2 := cell_regrown z2
         have rz7 := cell_regrown z7
         have rzg := cell_regrown zg
         cases S2 with
         | true =>
          refine wp_region_quiet_below (by kernel_rfl) (by kernel_rfl) ?_
          repeat (go_big_quiet_step (fail))
          refine wpQuiet_nil ?_
          intro w6' hw6
          have hbq : Below wz.heap.size wz w6' := by
           obtain ⟨pq, rfl⟩ := hw6
           exact below_regrown _ _ _
          clear hw6
          have HB4 := xH1 (HBZ.out.trans (hbq.mono HBZ.out.size))
          go_wp2
          go_roundw
          case rel => first | exact ⟨k + 1, by omega, by go_num, by rw [HF2.out]; rfl, HB4.out⟩ | ((repeat apply Exists.intro); exact ⟨⟨k + 1, by omega, by go_num, by rw [HF2.out]; rfl, HB4.out⟩, rfl⟩)
          case measure => simp [intOf]; omega
         | false =>
          by_cases h8 : kd = 8
          ·subst h8
           refine wp_region_quiet_below (by kernel_rfl) (by kernel_rfl) ?_
           repeat (go_big_quiet_step (fail))
           refine wpQuiet_nil ?_
           intro w6' hw6
           have hbq : Below wz.heap.size wz w6' := by
            obtain ⟨pq, rfl⟩ := hw6
            exact below_regrown _ _ _
           clear hw6
           have HB4 := xH1 (HBZ.out.trans (hbq.mono HBZ.out.size))
           go_wp2
           go_roundw
           case rel => first | exact ⟨k + 1, by omega, by go_num, by rw [HF2.out]; simp [zbZ]; rfl, HB4.out⟩ | ((repeat apply Exists.intro); exact ⟨⟨k + 1, by omega, by go_num, by rw [HF2.out]; simp [zbZ]; rfl, HB4.out⟩, rfl⟩)
           case measure => simp [intOf]; omega
          ·have t8 : decide (kd = 8) = false := decide_eq_false h8
           have t9 : (kd == 8) = false := t8
           refine wp_region_quiet_below (by kernel_rfl) (by kernel_rfl) ?_
           repeat (go_big_quiet_step (fail))
           refine wpQuiet_nil ?_
           intro w6' hw6
           have hbq : Below wz.heap.size wz w6' := by
            obtain ⟨pq, rfl⟩ := hw6
            exact below_regrown _ _ _
           clear hw6
           have HB4 := xH1 (HBZ.out.trans (hbq.mono HBZ.out.size))
           go_wp2
           go_roundw
           case rel => first | exact ⟨k + 1, by omega, by go_num, by rw [HF2.out]; simp [zbZ, h8], HB4.out⟩ | ((repeat apply Exists.intro); exact ⟨⟨k + 1, by omega, by go_num, by rw [HF2.out]; simp [zbZ, h8], HB4.out⟩, rfl⟩)
           case measure => simp [intOf]; omega
        ·obtain rfl : k = m := by omega
         have HE2 : Hid ((S || (tl.take k).any (zbZ x3)) = zc1 q.threads x3 (t' + 1)) := xH1 (by rw [HNX.out, HM.out, List.take_length])
         rw [HE2.out]
         have HBW4 := xH1 (HB2.out.trans (HB3.out.mono HB2.out.size))
         go_wp2
         go_roundw
         case rel => first | exact ⟨t' + 1, by omega, by go_num, rfl, HBW4.out⟩ | ((repeat apply Exists.intro); exact ⟨⟨t' + 1, by omega, by go_num, rfl, HBW4.out⟩, rfl⟩)
         case measure => simp [intOf]; omega
      ·obtain rfl : t' = u.nt := by omega
       rw [show zc1 q.threads x3 u.nt = true by rw [← HU.out.lt]; exact HST.out]
       have HBW4 := xH1 (HBW.out.trans (HB2.out.mono HBW.out.size))
       have cku0 := ku.cell 0 rfl
       have cku1 := ku.cell 1 rfl
       have cku2 := ku.cell 2 rfl
       have cku3 := ku.cell 3 rfl
       have cku4 := ku.cell 4 rfl
       have ckr0 := kr.cell 0 rfl
       have ckr1 := kr.cell 1 rfl
       have ckr2 := kr.cell 2 rfl
       have ckr3 := kr.cell 3 rfl
       have ckr4 := kr.cell 4 rfl
       have ckr5 := kr.cell 5 rfl
       have ckr6 := kr.cell 6 rfl
       have ckr7 := kr.cell 7 rfl
       have ckr8 := kr.cell 8 rfl
       have ckr9 := kr.cell 9 rfl
       go_wp2
       go_roundw
       case rel => first | exact ⟨l + 1, by omega, by go_num, HBW4.out⟩ | ((repeat apply Exists.intro); exact ⟨⟨l + 1, by omega, by go_num, HBW4.out⟩, rfl⟩)
       case measure => simp [intOf]; omega
    ·obtain rfl : l = sv.sa.n := by omega
     clear hlt hl
     have cku0 := ku.cell 0 rfl
     have cku1 := ku.cell 1 rfl
     have cku2 := ku.cell 2 rfl
     have cku3 := ku.cell 3 rfl
     have cku4 := ku.cell 4 rfl
     have ckr0 := kr.cell 0 rfl
     have ckr1 := kr.cell 1 rfl
     have ckr2 := kr.cell 2 rfl
     have ckr3 := kr.cell 3 rfl
     have ckr4 := kr.cell 4 rfl
     have ckr5 := kr.cell 5 rfl
     have ckr6 := kr.cell 6 rfl
     have ckr7 := kr.cell 7 rfl
     have ckr8 := kr.cell 8 rfl
     have ckr9 := kr.cell 9 rfl
     go_wp2
     go_ret
     exact ⟨rfl, HB.out⟩
 ·go_enter Try.func3, Try.ntmps3
  go_wp2
  go_ret
  exact ⟨rfl, Below.refl _ _⟩
end Go.Proofs.Ytppoohbkkdgljaa
