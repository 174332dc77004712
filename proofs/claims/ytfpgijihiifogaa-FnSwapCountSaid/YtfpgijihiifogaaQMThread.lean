/- Part of a proof: MThread. -/
import Derived.Test.YtfpgijihiifogaaQMWaits
set_option maxRecDepth 100000
set_option maxHeartbeats 16000000
namespace Go.Proofs.Ytfpgijihiifogaa
open Go.RowKit Go.Sort
theorem specThread7_ok (u : PV) (p : Pg) (v : StV) (L : StL) (s : StD) (t : Nat) (w : World) (hp : RdP w u p) (hr : StR w v L s) (hf : Fits p s) (ht : t < p.threads.length) :
  Calls Try.prog 63 #[.agg #[.slice u.s u.ns u.cs, .slice u.g u.ng u.cg, .slice u.b u.nb u.cb, .slice u.r u.nr u.cr, .slice u.t u.nt u.ct], .agg #[.slice v.pl.a v.pl.n v.pl.c, .slice v.st.a v.st.n v.st.c, .slice v.se.a v.se.n v.se.c, .slice v.on.a v.on.n v.on.c, .slice v.gr.a v.gr.n v.gr.c, .slice v.ba.a v.ba.n v.ba.c, .slice v.ch.a v.ch.n v.ch.c, .slice v.sa.a v.sa.n v.sa.c, .int .i64 v.fl], .int .i64 t, .int .i64 ((eT s).count (t : Int) : Nat)] w fun e w' => e = .returned (.bool true) ∧ Below w.heap.size w w' := by
 have HS := xH1 hr
 have HF := xH1 hf
 have LT := xH1 hp.lt
 have Lpl := xH1 hr.pl.len
 have Lst := xH1 hr.st.len
 have Lon := xH1 hr.on.len
 obtain ⟨z1, z2, z3, z4, ⟨z5, z6⟩, z7⟩ := valid_small hf.prog
 obtain ⟨bp, op, epl, hpl⟩ := hr.pl.rd.int (by rw [hf.np]; omega)
 obtain ⟨bs, os, est, hst⟩ := hr.st.rd.int (by rw [hf.nst]; omega)
 obtain ⟨bt, ot, et, hth⟩ := hp.thr (by omega)
 obtain ⟨a2, x2, ct, r2⟩ := hth t ht
 have cpl := hpl t (by rw [hf.np]; exact ht)
 have cst := hst t (by rw [hf.nst]; exact ht)
 have hz7 := z7 t
 have hth' := hf.th t ht
 have e1 : ((t : Nat) : Int).toNat = t := by simp
 unfold thOk at hth'
 rw [e1, opsOf_nat] at hth'
 obtain ⟨pl, epl'⟩ : ∃ x, x = s.places.getD t 0 := ⟨_, rfl⟩
 obtain ⟨sx, est'⟩ : ∃ x, x = s.status.getD t 0 := ⟨_, rfl⟩
 obtain ⟨m, em⟩ : ∃ m, m = (p.threads.getD t []).length := ⟨_, rfl⟩
 rw [← epl'] at cpl hth'
 rw [← est'] at cst hth'
 rw [← em] at ct hz7 hth'
 have HPL := xH1 epl'
 have HM := xH1 em
 have HT := xH1 ht
 have npl : v.pl.n = u.nt := by rw [hr.pl.len, hf.np, hp.lt]
 have nst : v.st.n = u.nt := by rw [hr.st.len, hf.nst, hp.lt]
 have t0 : (0 : Int) ≤ (t : Int) := by omega
 have t1 : (t : Int) < (u.nt : Int) := by rw [← hp.lt]; omega
 have t2 : (t : Int) < (v.pl.n : Int) := by rw [npl]; exact t1
 have t3 : (t : Int) < (v.st.n : Int) := by rw [nst]; exact t1
 have z8 : u.nt ≤ 4 := by rw [← hp.lt]; exact z6
 clear hp hr hf ht hpl hst hth z1 z2 z3 z4 z5 z6 z7 e1 npl nst epl' est' em
 obtain ⟨W0, hW0⟩ : ∃ W0 : World, W0 = ((w.alloc (.cells #[.slice u.s u.ns u.cs, .slice u.g u.ng u.cg, .slice u.b u.nb u.cb, .slice u.r u.nr u.cr, .slice u.t u.nt u.ct] 31)).alloc (.cells #[.slice v.pl.a v.pl.n v.pl.c, .slice v.st.a v.st.n v.st.c, .slice v.se.a v.se.n v.se.c, .slice v.on.a v.on.n v.on.c, .slice v.gr.a v.gr.n v.gr.c, .slice v.ba.a v.ba.n v.ba.c, .slice v.ch.a v.ch.n v.ch.c, .slice v.sa.a v.sa.n v.sa.c, .int .i64 v.fl] 44)) := ⟨_, rfl⟩
 have B0 : Below w.heap.size w W0 := by
  rw [hW0]
  exact ((xB1.alloc (by simp) _).alloc (by simp) _)
 have kP : Blk W0 (w.heap.size) #[.slice u.s u.ns u.cs, .slice u.g u.ng u.cg, .slice u.b u.nb u.cb, .slice u.r u.nr u.cr, .slice u.t u.nt u.ct] 31 := by
  rw [hW0]
  have h := Blk.new w #[.slice u.s u.ns u.cs, .slice u.g u.ng u.cg, .slice u.b u.nb u.cb, .slice u.r u.nr u.cr, .slice u.t u.nt u.ct] 31
  exact h |>.alloc _
 have kS : Blk W0 (w.heap.size + 1) #[.slice v.pl.a v.pl.n v.pl.c, .slice v.st.a v.st.n v.st.c, .slice v.se.a v.se.n v.se.c, .slice v.on.a v.on.n v.on.c, .slice v.gr.a v.gr.n v.gr.c, .slice v.ba.a v.ba.n v.ba.c, .slice v.ch.a v.ch.n v.ch.c, .slice v.sa.a v.sa.n v.sa.c, .int .i64 v.fl] 44 := by
  rw [hW0]
  have h := Blk.new (w.alloc (.cells #[.slice u.s u.ns u.cs, .slice u.g u.ng u.cg, .slice u.b u.nb u.cb, .slice u.r u.nr u.cr, .slice u.t u.nt u.ct] 31)) #[.slice v.pl.a v.pl.n v.pl.c, .slice v.st.a v.st.n v.st.c, .slice v.se.a v.se.n v.se.c, .slice v.on.a v.on.n v.on.c, .slice v.gr.a v.gr.n v.gr.c, .slice v.ba.a v.ba.n v.ba.c, .slice v.ch.a v.ch.n v.ch.c, .slice v.sa.a v.sa.n v.sa.c, .int .i64 v.fl] 44
  simp only [World.size_alloc] at h
  exact h
 have hS0 : W0.heap.size = w.heap.size + 2 := by rw [hW0]; simp
 have p4 := kP.cell 4 rfl
 have q0 := kS.cell 0 rfl
 have q1 := kS.cell 1 rfl
 have q2 := kS.cell 2 rfl
 have q3 := kS.cell 3 rfl
 have q4 := kS.cell 4 rfl
 have q5 := kS.cell 5 rfl
 have q6 := kS.cell 6 rfl
 have q7 := kS.cell 7 rfl
 have q8 := kS.cell 8 rfl
 have HB := xH1 B0
 rw [et] at p4
 rw [epl] at q0
 rw [est] at q1
 replace ct := keepc B0 ct
 replace cpl := keepc B0 cpl
 replace cst := keepc B0 cst
 have R2 := xH1 (r2.below B0)
 have HS0 := xH1 (HS.out.below B0)
 have HVP : Hid (∀ W, StR W v L s → StR W ⟨⟨some ⟨bp, op, none⟩, v.pl.n, v.pl.c⟩, ⟨some ⟨bs, os, none⟩, v.st.n, v.st.c⟩, v.se, v.on, v.gr, v.ba, v.ch, v.sa, v.fl⟩ L s) := xH1 (by intro W h; rw [← epl, ← est]; exact h)
 clear kP kS B0 r2 et epl est HS
 obtain ⟨h0, h1, hc⟩ := hth'
 rcases hc with ⟨c1, c2, c3, c4⟩ | ⟨c1, ⟨c2, c3, c4⟩ | ⟨c2, c3, c4⟩ | ⟨c2, c3, c4, c5⟩⟩
 ·have HN : Hid ((eT s).count (t : Int) = 0) := xH1 (List.count_eq_zero.2 c3)
  rw [HN.out]
  subst c1 c2
  have t4 : ((m : Int) == (m : Int)) = true := by simp
  clear c3 c4 h0 h1
  go_enter Try.func63, Try.ntmps63
  go_upto_region 1 with fail
  rw [← hW0]
  clear hW0
  go_wp2
  go_ret
  exact ⟨rfl, HB.out⟩
 ·have HN : Hid ((eT s).count (t : Int) = 0) := xH1 (List.count_eq_zero.2 c3)
  rw [HN.out]
  subst c2
  obtain ⟨b2, o2, ea2, g2'⟩ := R2.out.op (by have := HM.out; omega)
  obtain ⟨g2a, g2b, g2c⟩ := g2' pl.toNat (by have := HM.out; omega)
  obtain ⟨o, ho⟩ : ∃ o, o = (p.threads.getD t []).getD pl.toNat noOp := ⟨_, rfl⟩
  have ho' : opAt p s t = o := by unfold opAt; rw [opsOf_nat, show ((t : Nat) : Int).toNat = t by simp, ← HPL.out, ho]
  rw [← ho] at g2a g2b g2c
  subst ea2
  have t4 : (pl == (m : Int)) = false := by simp; omega
  clear g2' ho
  have bA : Below W0.heap.size W0 (W0.alloc (.cells #[.int .i64 o.kind, .int .i64 o.on, .int .i64 o.arg] 61)) := xA1
  have kA : Blk (W0.alloc (.cells #[.int .i64 o.kind, .int .i64 o.on, .int .i64 o.arg] 61)) W0.heap.size #[.int .i64 o.kind, .int .i64 o.on, .int .i64 o.arg] 61 := Blk.new _ _ _
  have cstA := keepc bA cst
  have qA0 := keepc bA q0
  have qA1 := keepc bA q1
  have qA2 := keepc bA q2
  have qA3 := keepc bA q3
  have qA4 := keepc bA q4
  have qA5 := keepc bA q5
  have qA6 := keepc bA q6
  have qA7 := keepc bA q7
  have qA8 := keepc bA q8
  rw [hS0] at kA
  have oA0 := kA.cell 0 rfl
  have oA1 := kA.cell 1 rfl
  have oA2 := kA.cell 2 rfl
  clear bA kA
  clear c3 c4
  go_enter Try.func63, Try.ntmps63
  go_upto_region 1 with fail
  rw [← hW0]
  clear hW0
  go_wp2
  go_ret
  exact ⟨rfl, HB.out.alloc HB.out.size _⟩
 ·subst c2
  obtain ⟨b2, o2, ea2, g2'⟩ := R2.out.op (by have := HM.out; omega)
  obtain ⟨g2a, g2b, g2c⟩ := g2' pl.toNat (by have := HM.out; omega)
  obtain ⟨o, ho⟩ : ∃ o, o = (p.threads.getD t []).getD pl.toNat noOp := ⟨_, rfl⟩
  have ho' : opAt p s t = o := by unfold opAt; rw [opsOf_nat, show ((t : Nat) : Int).toNat = t by simp, ← HPL.out, ho]
  rw [← ho] at g2a g2b g2c
  subst ea2
  have t4 : (pl == (m : Int)) = false := by simp; omega
  clear g2' ho
  rw [ho'] at c3
  have HN : Hid ((eT s).count (t : Int) = 1) := xH1 (by
   have hm : (t : Int) ∈ eT s := List.mem_map.2 ⟨_, c3, rfl⟩
   have h1 := List.count_pos_iff.2 hm
   have h2 := List.nodup_iff_count.1 HF.out.ne (t : Int)
   omega)
  rw [HN.out]
  have HW := xH1 c3
  clear c3 c4
  have bA : Below W0.heap.size W0 (W0.alloc (.cells #[.int .i64 o.kind, .int .i64 o.on, .int .i64 o.arg] 61)) := xA1
  have kA : Blk (W0.alloc (.cells #[.int .i64 o.kind, .int .i64 o.on, .int .i64 o.arg] 61)) W0.heap.size #[.int .i64 o.kind, .int .i64 o.on, .int .i64 o.arg] 61 := Blk.new _ _ _
  have cstA := keepc bA cst
  have qA0 := keepc bA q0
  have qA1 := keepc bA q1
  have qA2 := keepc bA q2
  have qA3 := keepc bA q3
  have qA4 := keepc bA q4
  have qA5 := keepc bA q5
  have qA6 := keepc bA q6
  have qA7 := keepc bA q7
  have qA8 := keepc bA q8
  have hcl := specWaits7_ok p ⟨⟨some ⟨bp, op, none⟩, v.pl.n, v.pl.c⟩, ⟨some ⟨bs, os, none⟩, v.st.n, v.st.c⟩, v.se, v.on, v.gr, v.ba, v.ch, v.sa, v.fl⟩ L s o t (W0.alloc (.cells #[.int .i64 o.kind, .int .i64 o.on, .int .i64 o.arg] 61)) (HVP.out _ (HS0.out.below bA)) HF.out HW.out
  try dsimp only at hcl
  have HCL := xH1 hcl
  clear hcl
  rw [hS0] at kA
  have oA0 := kA.cell 0 rfl
  have oA1 := kA.cell 1 rfl
  have oA2 := kA.cell 2 rfl
  clear bA kA
  go_enter Try.func63, Try.ntmps63
  go_upto_region 1 with fail
  rw [← hW0]
  clear hW0
  go_wp2_with fail
  refine HCL.out.mono ?_
  rintro e w1 ⟨rfl, hb⟩
  go_wp2
  go_ret
  exact ⟨rfl, (HB.out.alloc HB.out.size _).trans (hb.mono (HB.out.alloc HB.out.size _).size)⟩
 ·have HN : Hid ((eT s).count (t : Int) = 0) := xH1 (List.count_eq_zero.2 c3)
  rw [HN.out]
  subst c2
  obtain ⟨b2, o2, ea2, g2'⟩ := R2.out.op (by have := HM.out; omega)
  obtain ⟨g2a, g2b, g2c⟩ := g2' pl.toNat (by have := HM.out; omega)
  obtain ⟨o, ho⟩ : ∃ o, o = (p.threads.getD t []).getD pl.toNat noOp := ⟨_, rfl⟩
  have ho' : opAt p s t = o := by unfold opAt; rw [opsOf_nat, show ((t : Nat) : Int).toNat = t by simp, ← HPL.out, ho]
  rw [← ho] at g2a g2b g2c
  subst ea2
  have t4 : (pl == (m : Int)) = false := by simp; omega
  clear g2' ho
  rw [ho'] at c4 c5
  obtain ⟨i, hi, hmem⟩ := mem_allE.1 c5
  have hx1 : (s.onces.getD i noOnce).state = 1 ∧ (t : Int) = (s.onces.getD i noOnce).owner ∧ o.on = i := by
   unfold ownEn at hmem
   by_cases hs1 : (s.onces.getD i noOnce).state = 1
   ·rw [if_pos hs1] at hmem
    have := xS1 hmem
    simp only [Prod.mk.injEq] at this
    exact ⟨hs1, this.1, this.2⟩
   ·rw [if_neg hs1] at hmem; cases hmem
  obtain ⟨x1, x2, x3⟩ := hx1
  have hok := HF.out.on i hi
  have hov : (s.onces.getD i noOnce).value = 0 := by
   rcases hok with ⟨k1, -⟩ | ⟨-, -, k3, -⟩ | ⟨k1, -⟩
   ·omega
   ·exact k3
   ·omega
  obtain ⟨x, q, b1, o1, HX, ea, g0, g1, g2, g3, Q0, QL0, QC0⟩ := HS0.out.at_on (j := i) hi
  rw [← HX.out] at x1 x2 hok hov
  rw [x1] at g0
  rw [← x2] at g1
  rw [hov] at g2
  rw [ea] at q3
  have hk2 : onceOk ⟨1, t, 0, x.waits⟩ := by
   have : x = ⟨1, t, 0, x.waits⟩ := by
    obtain ⟨xs, xo, xv, xw⟩ := x
    dsimp only at x1 x2 hov
    subst x1 x2 hov
    rfl
   rw [← this]; exact hok
  have HK2 := xH1 hk2
  obtain ⟨ok, oo, oa⟩ := o
  dsimp only at c4 x3 g2a g2b g2c
  subst c4 x3
  have i2 : (0 : Int) ≤ (i : Int) := by omega
  have i3 : (i : Int) < (v.on.n : Int) := by have := Lon.out; omega
  clear c3 c5 hmem x1 x2 hok hov ea hk2 ho' hi
  have bA : Below W0.heap.size W0 (W0.alloc (.cells #[.int .i64 4, .int .i64 i, .int .i64 oa] 61)) := xA1
  have kA : Blk (W0.alloc (.cells #[.int .i64 4, .int .i64 i, .int .i64 oa] 61)) W0.heap.size #[.int .i64 4, .int .i64 i, .int .i64 oa] 61 := Blk.new _ _ _
  have cstA := keepc bA cst
  have qA0 := keepc bA q0
  have qA1 := keepc bA q1
  have qA2 := keepc bA q2
  have qA3 := keepc bA q3
  have qA4 := keepc bA q4
  have qA5 := keepc bA q5
  have qA6 := keepc bA q6
  have qA7 := keepc bA q7
  have qA8 := keepc bA q8
  have g0A := keepc bA g0
  have g1A := keepc bA g1
  have g2A := keepc bA g2
  have g3A := keepc bA g3
  have hcl := specRuns_ok x.waits q.a q.n q.c t (W0.alloc (.cells #[.int .i64 4, .int .i64 i, .int .i64 oa] 61)) QL0.out.symm QC0.out (Q0.out.below bA) HK2.out
  try dsimp only at hcl
  have HCL := xH1 hcl
  clear hcl
  rw [hS0] at kA
  have oA0 := kA.cell 0 rfl
  have oA1 := kA.cell 1 rfl
  have oA2 := kA.cell 2 rfl
  clear bA kA
  go_enter Try.func63, Try.ntmps63
  go_upto_region 1 with fail
  rw [← hW0]
  clear hW0
  go_wp2_with fail
  refine HCL.out.mono ?_
  rintro e w1 ⟨rfl, hb⟩
  go_wp2
  go_ret
  exact ⟨rfl, (HB.out.alloc HB.out.size _).trans (hb.mono (HB.out.alloc HB.out.size _).size)⟩
theorem own_at7 {p : Pg} {s : StD} (hf : Fits p s) {i : Nat} (hi : i < s.onces.length) (h1 : (s.onces.getD i noOnce).state = 1) :
  ∃ t : Nat, (s.onces.getD i noOnce).owner = t ∧ t < p.threads.length ∧ s.status.getD t 0 = 2 ∧ 0 ≤ s.places.getD t 0 ∧ s.places.getD t 0 < (p.threads.getD t []).length ∧ (opAt p s t).on = i := by
 have hm : ((s.onces.getD i noOnce).owner, (i : Int)) ∈ owns s := in_owns hi (by unfold ownEn; rw [if_pos h1]; simp)
 have hr := hf.oe _ hm
 obtain ⟨t, ht⟩ : ∃ t : Nat, (s.onces.getD i noOnce).owner = t := ⟨(s.onces.getD i noOnce).owner.toNat, by have := hr.1; dsimp only at this; omega⟩
 rw [ht] at hm hr
 have htl : t < p.threads.length := by have := hr.2; dsimp only at this; omega
 have hth := hf.th t htl
 unfold thOk at hth
 rw [show ((t : Nat) : Int).toNat = t by simp, opsOf_nat] at hth
 have hto : (t : Int) ∈ oT s := List.mem_map.2 ⟨_, hm, rfl⟩
 obtain ⟨h0, -, hc⟩ := hth
 rcases hc with ⟨-, -, -, c4⟩ | ⟨c1, ⟨-, -, c4⟩ | ⟨-, -, c4⟩ | ⟨c2, -, -, c5⟩⟩
 ·exact absurd hto c4
 ·exact absurd hto c4
 ·exact absurd hto c4
 ·refine ⟨t, ht, htl, c2, h0, c1, ?_⟩
  have e : ∀ {l : List (Int × Int)} {a b c : Int}, (l.map (·.1)).Nodup → (a, b) ∈ l → (a, c) ∈ l → b = c := by
   intro l a b c hn hb hc
   obtain ⟨i, -, e1, e2⟩ := find_pair hn hb
   obtain ⟨j, -, e3, e4⟩ := find_pair hn hc
   rw [e1] at e3
   have : i = j := by omega
   subst this
   rw [e2] at e4
   exact (Prod.mk.inj e4).2
  exact e hf.no c5 hm
theorem specOwners7_ok (u : PV) (p : Pg) (v : StV) (L : StL) (s : StD) (w : World) (hp : RdP w u p) (hr : StR w v L s) (hf : Fits p s) :
  Calls Try.prog 64 #[.agg #[.slice u.s u.ns u.cs, .slice u.g u.ng u.cg, .slice u.b u.nb u.cb, .slice u.r u.nr u.cr, .slice u.t u.nt u.ct], .agg #[.slice v.pl.a v.pl.n v.pl.c, .slice v.st.a v.st.n v.st.c, .slice v.se.a v.se.n v.se.c, .slice v.on.a v.on.n v.on.c, .slice v.gr.a v.gr.n v.gr.c, .slice v.ba.a v.ba.n v.ba.c, .slice v.ch.a v.ch.n v.ch.c, .slice v.sa.a v.sa.n v.sa.c, .int .i64 v.fl]] w fun e w' => e = .returned (.bool true) ∧ Below w.heap.size w w' := by
 have HS := xH1 hr
 have HP := xH1 hp
 have HF := xH1 hf
 have LT := xH1 hp.lt
 have Lon := xH1 hr.on.len
 have npl : v.pl.n = u.nt := by rw [hr.pl.len, hf.np, hp.lt]
 have nst : v.st.n = u.nt := by rw [hr.st.len, hf.nst, hp.lt]
 have NPL := xH1 npl
 have NST := xH1 nst
 have zon : v.on.n ≤ 3 := by rw [hr.on.len, hf.non]; omega
 clear hp hr hf npl nst
 obtain ⟨W0, hW0⟩ : ∃ W0 : World, W0 = ((w.alloc (.cells #[.slice u.s u.ns u.cs, .slice u.g u.ng u.cg, .slice u.b u.nb u.cb, .slice u.r u.nr u.cr, .slice u.t u.nt u.ct] 31)).alloc (.cells #[.slice v.pl.a v.pl.n v.pl.c, .slice v.st.a v.st.n v.st.c, .slice v.se.a v.se.n v.se.c, .slice v.on.a v.on.n v.on.c, .slice v.gr.a v.gr.n v.gr.c, .slice v.ba.a v.ba.n v.ba.c, .slice v.ch.a v.ch.n v.ch.c, .slice v.sa.a v.sa.n v.sa.c, .int .i64 v.fl] 44)) := ⟨_, rfl⟩
 have B0 : Below w.heap.size w W0 := by
  rw [hW0]
  exact ((xB1.alloc (by simp) _).alloc (by simp) _)
 have kP : Blk W0 (w.heap.size) #[.slice u.s u.ns u.cs, .slice u.g u.ng u.cg, .slice u.b u.nb u.cb, .slice u.r u.nr u.cr, .slice u.t u.nt u.ct] 31 := by
  rw [hW0]
  have h := Blk.new w #[.slice u.s u.ns u.cs, .slice u.g u.ng u.cg, .slice u.b u.nb u.cb, .slice u.r u.nr u.cr, .slice u.t u.nt u.ct] 31
  exact h |>.alloc _
 have kS : Blk W0 (w.heap.size + 1) #[.slice v.pl.a v.pl.n v.pl.c, .slice v.st.a v.st.n v.st.c, .slice v.se.a v.se.n v.se.c, .slice v.on.a v.on.n v.on.c, .slice v.gr.a v.gr.n v.gr.c, .slice v.ba.a v.ba.n v.ba.c, .slice v.ch.a v.ch.n v.ch.c, .slice v.sa.a v.sa.n v.sa.c, .int .i64 v.fl] 44 := by
  rw [hW0]
  have h := Blk.new (w.alloc (.cells #[.slice u.s u.ns u.cs, .slice u.g u.ng u.cg, .slice u.b u.nb u.cb, .slice u.r u.nr u.cr, .slice u.t u.nt u.ct] 31)) #[.slice v.pl.a v.pl.n v.pl.c, .slice v.st.a v.st.n v.st.c, .slice v.se.a v.se.n v.se.c, .slice v.on.a v.on.n v.on.c, .slice v.gr.a v.gr.n v.gr.c, .slice v.ba.a v.ba.n v.ba.c, .slice v.ch.a v.ch.n v.ch.c, .slice v.sa.a v.sa.n v.sa.c, .int .i64 v.fl] 44
  simp only [World.size_alloc] at h
  exact h
 have hS0 : W0.heap.size = w.heap.size + 2 := by rw [hW0]; simp
 have p4 := kP.cell 4 rfl
 have q0 := kS.cell 0 rfl
 have q1 := kS.cell 1 rfl
 have q3 := kS.cell 3 rfl
 have H0 := xH1 (HS.out.below B0)
 have HP0 := xH1 (HP.out.below B0)
 have HB := xH1 B0
 clear HS HP B0 kS kP
 go_enter Try.func64, Try.ntmps64
 go_wp2
 rw [← hW0]
 clear hW0
 go_loopw [5] (fun i wr => ∃ j : Nat, j ≤ v.on.n ∧ i = .int .i64 j ∧ Below W0.heap.size W0 wr) (fun i _ => v.on.n - (intOf i).toNat)
 case atStart => exact ⟨0, by omega, rfl, Below.refl _ _⟩
 case round =>
  obtain ⟨j, hj, rfl, hb0⟩ := hrel
  have cq := keepc hb0 q3
  by_cases hlt : j < v.on.n
  rotate_left
  ·obtain rfl : j = v.on.n := by omega
   go_wp2
   go_ret
   exact ⟨rfl, HB.out.trans (hb0.mono HB.out.size)⟩
  ·have hjs : j < s.onces.length := by have := Lon.out; omega
   obtain ⟨x, q, b1, o1, HX, ea, g0, g1, g2, g3, Q0, QL0, QC0⟩ := (H0.out.below hb0).at_on (j := j) hjs
   rw [ea] at cq
   have i0 : (0 : Int) ≤ (j : Int) := by omega
   have i1 : (j : Int) < v.on.n := by omega
   obtain ⟨WA, hWA⟩ : ∃ WA : World, WA = wr.alloc (.cells #[.int .i64 x.state, .int .i64 x.owner, .int .i64 x.value, .slice q.a q.n q.c] 83) := ⟨_, rfl⟩
   have bA : Below wr.heap.size wr (wr.alloc (.cells #[.int .i64 x.state, .int .i64 x.owner, .int .i64 x.value, .slice q.a q.n q.c] 83)) := xA1
   have kA : Blk (wr.alloc (.cells #[.int .i64 x.state, .int .i64 x.owner, .int .i64 x.value, .slice q.a q.n q.c] 83)) wr.heap.size #[.int .i64 x.state, .int .i64 x.owner, .int .i64 x.value, .slice q.a q.n q.c] 83 := Blk.new _ _ _
   have a0 := kA.cell 0 rfl
   have a1 := kA.cell 1 rfl
   by_cases hx1 : x.state = 1
   rotate_left
   ·have t0 : (x.state != 1) = true := by simpa using hx1
    clear hx1
    go_wp2
    go_roundw
    case rel => exact ⟨j + 1, by omega, by go_num, hb0.trans (bA.mono hb0.size)⟩
    case measure => simp [intOf]; omega
   ·obtain ⟨t, ht, htl, hst2, hp0, hp1, hon⟩ := own_at7 HF.out hjs (by rw [← HX.out]; exact hx1)
    rw [← HX.out] at ht
    have t0 : (x.state != 1) = false := by simp [hx1]
    obtain ⟨pl, epl⟩ : ∃ y, y = s.places.getD t 0 := ⟨_, rfl⟩
    rw [← epl] at hp0 hp1
    obtain ⟨m, em⟩ : ∃ m, m = (p.threads.getD t []).length := ⟨_, rfl⟩
    have bB := hb0.trans (bA.mono hb0.size)
    obtain ⟨bp, op, e1, h1⟩ := H0.out.pl.rd.int (by rw [HF.out.np]; omega)
    obtain ⟨bs, os, e2, h2⟩ := H0.out.st.rd.int (by rw [HF.out.nst]; omega)
    obtain ⟨bt, ot, e3, h3⟩ := HP0.out.thr (by omega)
    obtain ⟨a2, x2, ct, r2⟩ := h3 t htl
    obtain ⟨b2, o2, e4, h4⟩ := r2.op (by omega)
    have h4' := (h4 pl.toNat (by omega)).2.1
    have eop : (p.threads.getD t []).getD pl.toNat noOp = opAt p s t := by unfold opAt; rw [opsOf_nat, show ((t : Nat) : Int).toNat = t by simp, ← epl]
    rw [eop, hon] at h4'
    have cpl := keepc bB (h1 t (by rw [HF.out.np]; exact htl))
    have cst := keepc bB (h2 t (by rw [HF.out.nst]; exact htl))
    rw [← epl] at cpl
    rw [hst2] at cst
    rw [← em] at ct hp1
    rw [e4] at ct
    replace ct := keepc bB ct
    have cop := keepc bB h4'
    have c0 := keepc bB q0
    have c1 := keepc bB q1
    have c4 := keepc bB p4
    have c3 := keepc bA cq
    rw [e1] at c0
    rw [e2] at c1
    rw [e3] at c4
    rw [ht] at a1 kA bA c0 c1 c4 ct cop cpl cst bB c3 g1 hWA a0
    have t1 : (t : Int) < (u.nt : Int) := by rw [← LT.out]; omega
    have t2 : (t : Int) < (v.pl.n : Int) := by rw [NPL.out]; exact t1
    have t3 : (t : Int) < (v.st.n : Int) := by rw [NST.out]; exact t1
    have t4 : (0 : Int) ≤ (t : Int) := by omega
    have t5 : ((j : Int) != (j : Int)) = false := by simp
    have t6 : decide (u.nt ≤ t) = false := decide_eq_false (by omega)
    have t7 : ((2 : Int) != 2) = false := by decide
    rw [hx1] at g0 a0 kA bA c0 c1 c4 ct cop cpl cst bB c3 a1
    clear hx1 ht htl hst2 hon epl em e1 h1 e2 h2 e3 h3 r2 e4 h4 h4' eop t0 hWA kA
    have t0 : ((1 : Int) != 1) = false := by decide
    go_wp2
    go_quiet (fail)
    go_wp2
    go_roundw
    case rel => exact ⟨j + 1, by omega, by go_num, below_drewN bB _⟩
    case measure => simp [intOf]; omega
end Go.Proofs.Ytfpgijihiifogaa
