/- Part of a proof: MFits. -/
import Derived.Test.YtfpgijihiifogaaQMThread
set_option maxRecDepth 100000
set_option maxHeartbeats 16000000
namespace Go.Proofs.Ytfpgijihiifogaa
open Go.RowKit Go.Sort
theorem specFits_ok (u : PV) (p : Pg) (v : StV) (L : StL) (s : StD) (w : World) (hp : RdP w u p) (hr : StR w v L s) (hf : Fits p s) :
  Calls Try.prog 39 #[.agg #[.slice u.s u.ns u.cs, .slice u.g u.ng u.cg, .slice u.b u.nb u.cb, .slice u.r u.nr u.cr, .slice u.t u.nt u.ct], .agg #[.slice v.pl.a v.pl.n v.pl.c, .slice v.st.a v.st.n v.st.c, .slice v.se.a v.se.n v.se.c, .slice v.on.a v.on.n v.on.c, .slice v.gr.a v.gr.n v.gr.c, .slice v.ba.a v.ba.n v.ba.c, .slice v.ch.a v.ch.n v.ch.c, .slice v.sa.a v.sa.n v.sa.c, .int .i64 v.fl]] w fun e w' => e = .returned (.bool true) ∧ Below w.heap.size w w' := by
 have HS := xH1 hr
 have HP := xH1 hp
 have HF := xH1 hf
 have HV := xH1 hf.prog
 have HZ := xH1 (valid_Small hf.prog hp)
 have LT := xH1 hp.lt
 have LSA := xH1 hr.sa.len
 have npl : v.pl.n = u.nt := by rw [hr.pl.len, hf.np, hp.lt]
 have nst : v.st.n = u.nt := by rw [hr.st.len, hf.nst, hp.lt]
 have m1 : ((v.pl.n : Int) != (u.nt : Int)) = false := by rw [npl]; simp
 have m2 : ((v.st.n : Int) != (u.nt : Int)) = false := by rw [nst]; simp
 have nsa : v.sa.n ≤ 64 := by rw [hr.sa.len]; exact hf.nsa
 have f0 : 0 ≤ v.fl := by rw [hr.fl]; exact hf.flt.1
 have f4 : v.fl ≤ 4 := by rw [hr.fl]; exact hf.flt.2
 have n4 : 1 ≤ u.nt ∧ u.nt ≤ 4 := by rw [← hp.lt]; exact valid_threads hf.prog
 have n41 := n4.1
 have n42 := n4.2
 clear hp hr hf npl nst n4
 obtain ⟨W0, hW0⟩ : ∃ W0 : World, W0 = ((w.alloc (.cells #[.slice u.s u.ns u.cs, .slice u.g u.ng u.cg, .slice u.b u.nb u.cb, .slice u.r u.nr u.cr, .slice u.t u.nt u.ct] 31)).alloc (.cells #[.slice v.pl.a v.pl.n v.pl.c, .slice v.st.a v.st.n v.st.c, .slice v.se.a v.se.n v.se.c, .slice v.on.a v.on.n v.on.c, .slice v.gr.a v.gr.n v.gr.c, .slice v.ba.a v.ba.n v.ba.c, .slice v.ch.a v.ch.n v.ch.c, .slice v.sa.a v.sa.n v.sa.c, .int .i64 v.fl] 44)) := ⟨_, rfl⟩
 have B0 : Below w.heap.size w W0 := by
  rw [hW0]
  exact ((xB1.alloc (by simp) _).alloc (by simp) _)
 have kP : Blk W0 (w.heap.size) #[.slice u.s u.ns u.cs, .slice u.g u.ng u.cg, .slice u.b u.nb u.cb, .slice u.r u.nr u.cr, .slice u.t u.nt u.ct] 31 := by
  rw [hW0]
  have h := Blk.new w #[.slice u.s u.ns u.cs, .slice u.g u.ng u.cg, .slice u.b u.nb u.cb, .slice u.r u.nr u.cr, .slice u.t u.nt u.ct] 31
  exact h |>.alloc _
 have kS : Blk W0 (w.heap.size + 1) #[.slice v.pl.a v.pl.n v.pl.c, .slice v.st.a v.st.n v.st.c, .slice v.se.a v.se.n v.se.c, .slice v.on.a v.on.n v.on.c, .slice v.gr.a v.gr.n v.gr.c, .slice v.ba.a v.ba.n v.ba.c, .slice v.ch.a v.ch.n v.ch.c, .slice v.sa.a v.sa.n v.sa.c, .int .i64 v.fl] 44 := by
  rw [hW0]
  have h := Blk.new (w.alloc (.cells #[.slice u.s u.ns u.cs, .slice u.g u.ng u.cg, .slice u.b u.nb u.cb, .slice u.r u.nr u.cr, .slice u.t u.nt u.ct] 31)) #[.slice v.pl.a v.pl.n v.pl.c, .slice v.st.a v.st.n v.st.c, .slice v.se.a v.se.n v.se.c, .slice v.on.a v.on.n v.on.c, .slice v.gr.a v.gr.n v.gr.c, .slice v.ba.a v.ba.n v.ba.c, .slice v.ch.a v.ch.n v.ch.c, .slice v.sa.a v.sa.n v.sa.c, .int .i64 v.fl] 44
  simp only [World.size_alloc] at h
  exact h
 have hS0 : W0.heap.size = w.heap.size + 2 := by rw [hW0]; simp
 have p0 := kP.cell 0 rfl
 have p1 := kP.cell 1 rfl
 have p2 := kP.cell 2 rfl
 have p3 := kP.cell 3 rfl
 have p4 := kP.cell 4 rfl
 have q0 := kS.cell 0 rfl
 have q1 := kS.cell 1 rfl
 have q2 := kS.cell 2 rfl
 have q3 := kS.cell 3 rfl
 have q4 := kS.cell 4 rfl
 have q5 := kS.cell 5 rfl
 have q6 := kS.cell 6 rfl
 have q7 := kS.cell 7 rfl
 have q8 := kS.cell 8 rfl
 have H0 := xH1 (HS.out.below B0)
 have HP0 := xH1 (HP.out.below B0)
 have HB := xH1 B0
 clear HS HP B0 kS kP
 go_enter Try.func39, Try.ntmps39
 go_wp2_with fail
 rw [← hW0]
 clear hW0
 refine (specProgValid_any u p _ HP0.out HZ.out).mono ?_
 rintro e w1 ⟨rfl, hb⟩
 rw [HV.out]
 have H1 := xH1 (H0.out.below hb)
 have HP1 := xH1 (HP0.out.below hb)
 have HB1 := xH1 (HB.out.trans (hb.mono HB.out.size))
 replace p0 := keepc hb p0
 replace p1 := keepc hb p1
 replace p2 := keepc hb p2
 replace p3 := keepc hb p3
 replace p4 := keepc hb p4
 replace q0 := keepc hb q0
 replace q1 := keepc hb q1
 replace q2 := keepc hb q2
 replace q3 := keepc hb q3
 replace q4 := keepc hb q4
 replace q5 := keepc hb q5
 replace q6 := keepc hb q6
 replace q7 := keepc hb q7
 replace q8 := keepc hb q8
 clear hb H0 HP0 HB
 go_wp2_with fail
 refine (specShared_ok u p v L s _ HP1.out HV.out H1.out HF.out.things).mono ?_
 rintro e w2 ⟨rfl, hb⟩
 have H2 := xH1 (H1.out.below hb)
 have HP2 := xH1 (HP1.out.below hb)
 have HB2 := xH1 (HB1.out.trans (hb.mono HB1.out.size))
 replace p0 := keepc hb p0
 replace p1 := keepc hb p1
 replace p2 := keepc hb p2
 replace p3 := keepc hb p3
 replace p4 := keepc hb p4
 replace q0 := keepc hb q0
 replace q1 := keepc hb q1
 replace q2 := keepc hb q2
 replace q3 := keepc hb q3
 replace q4 := keepc hb q4
 replace q5 := keepc hb q5
 replace q6 := keepc hb q6
 replace q7 := keepc hb q7
 replace q8 := keepc hb q8
 clear hb H1 HP1 HB1
 go_wp2
 go_loopw [6] (fun i wr => ∃ j : Nat, j ≤ v.sa.n ∧ i = .int .i64 j ∧ wr = w2) (fun i _ => v.sa.n - (intOf i).toNat)
 case atStart => exact ⟨0, by omega, rfl, rfl⟩
 case round =>
  obtain ⟨j, hj, rfl, rfl⟩ := hrel
  by_cases hlt : j < v.sa.n
  ·obtain ⟨b, o, ea, g'⟩ := H2.out.sa.rd.int (by have := LSA.out; omega)
   have g := g' j (by have := LSA.out; omega)
   obtain ⟨x, hx⟩ : ∃ x, x = s.said.getD j 0 := ⟨_, rfl⟩
   have hxr : 0 ≤ x ∧ x ≤ 99 := by
    rw [hx, List.getD_eq_getElem?_getD, List.getElem?_eq_getElem (by have := LSA.out; omega)]
    exact HF.out.sa _ (List.getElem_mem _)
   rw [← hx] at g
   have q7' := q7
   rw [ea] at q7'
   have i0 : (0 : Int) ≤ (j : Int) := by omega
   have i1 : (j : Int) < (v.sa.n : Int) := by omega
   have HX := xH1 hxr
   clear hx hxr g' ea q7
   go_wp2_with fail
   refine (specValue_ok x _ HX.out).mono ?_
   rintro e wz ⟨rfl, hwz⟩
   have hwz' := hwz.symm
   subst hwz'
   go_wp2
   go_roundw
   case rel => exact ⟨j + 1, by omega, by go_num, trivial⟩
   case measure => simp [intOf]; omega
  ·obtain rfl : j = v.sa.n := by omega
   go_wp2_with fail
   refine (specQueued_ok u p v L s _ HP2.out HV.out H2.out HF.out).mono ?_
   rintro e w3 ⟨a, c, rfl, ho, hb⟩
   have H3 := xH1 (H2.out.below hb)
   have HP3 := xH1 (HP2.out.below hb)
   have HB3 := xH1 (HB2.out.trans (hb.mono HB2.out.size))
   replace p0 := keepc hb p0
   replace p1 := keepc hb p1
   replace p2 := keepc hb p2
   replace p3 := keepc hb p3
   replace p4 := keepc hb p4
   replace q0 := keepc hb q0
   replace q1 := keepc hb q1
   replace q2 := keepc hb q2
   replace q3 := keepc hb q3
   replace q4 := keepc hb q4
   replace q5 := keepc hb q5
   replace q6 := keepc hb q6
   replace q7 := keepc hb q7
   replace q8 := keepc hb q8
   obtain ⟨gq, rfl, -, -⟩ := owns_at ho (by omega)
   have HO := xH1 ho
   clear hb H2 HP2 HB2 ho hlt hj
   go_wp2
   go_loopw [9] (fun i wr => ∃ j : Nat, j ≤ u.nt ∧ i = .int .i64 j ∧ Below w3.heap.size w3 wr) (fun i _ => u.nt - (intOf i).toNat)
   case atStart => exact ⟨0, by omega, rfl, Below.refl _ _⟩
   case round =>
    obtain ⟨j, hj, rfl, hb0⟩ := hrel
    by_cases hlt : j < u.nt
    ·have cz := HO.out.cellAt j (by omega)
     replace cz : w3.cell? ⟨gq, j, none⟩ = some (.int .i64 ((eT s).count (j : Int) : Nat)) := by
      rw [cz]
      have h1 : j < (cntL u.nt (eT s)).length := by rw [cntL_len]; exact hlt
      have h2 := cntL_get u.nt (eT s) hlt
      rw [← h2]
      simp [ints, List.getD, h1]
     obtain ⟨z, hz⟩ : ∃ z : Int, z = ((eT s).count (j : Int) : Nat) := ⟨_, rfl⟩
     rw [← hz] at cz
     have cV : Hid (∀ d os, Calls Try.prog 63 #[.agg #[.slice u.s u.ns u.cs, .slice u.g u.ng u.cg, .slice u.b u.nb u.cb, .slice u.r u.nr u.cr, .slice u.t u.nt u.ct], .agg #[.slice v.pl.a v.pl.n v.pl.c, .slice v.st.a v.st.n v.st.c, .slice v.se.a v.se.n v.se.c, .slice v.on.a v.on.n v.on.c, .slice v.gr.a v.gr.n v.gr.c, .slice v.ba.a v.ba.n v.ba.c, .slice v.ch.a v.ch.n v.ch.c, .slice v.sa.a v.sa.n v.sa.c, .int .i64 v.fl], .int .i64 j, .int .i64 z] (grow (redrawn wr d) os) fun e w'' => e = .returned (.bool true) ∧ ∃ p : Regrown, w'' = grow (redrawn wr p.d) p.os) := xH1 (fun d os => Calls.regrown_of (by
      have := specThread7_ok u p v L s j (grow (redrawn wr d) os) ((HP3.out.below hb0).below (below_regrown wr d os)) ((H3.out.below hb0).below (below_regrown wr d os)) HF.out (by rw [LT.out]; exact hlt)
      rw [← hz] at this; exact this))
     have kz := cell_regrown (keepc hb0 cz)
     have kp0 := cell_regrown (keepc hb0 p0)
     have kp1 := cell_regrown (keepc hb0 p1)
     have kp2 := cell_regrown (keepc hb0 p2)
     have kp3 := cell_regrown (keepc hb0 p3)
     have kp4 := cell_regrown (keepc hb0 p4)
     have kq0 := cell_regrown (keepc hb0 q0)
     have kq1 := cell_regrown (keepc hb0 q1)
     have kq2 := cell_regrown (keepc hb0 q2)
     have kq3 := cell_regrown (keepc hb0 q3)
     have kq4 := cell_regrown (keepc hb0 q4)
     have kq5 := cell_regrown (keepc hb0 q5)
     have kq6 := cell_regrown (keepc hb0 q6)
     have kq7 := cell_regrown (keepc hb0 q7)
     have kq8 := cell_regrown (keepc hb0 q8)
     have i0 : (0 : Int) ≤ (j : Int) := by omega
     have i1 : (j : Int) < (u.nt : Int) := by omega
     clear hz cz
     go_wp2
     refine wp_region_quiet_below (by kernel_rfl) (by kernel_rfl) ?_
     repeat (go_big_quiet_step (exact cV.out _ _))
     refine wpQuiet_nil ?_
     intro w6 hw6
     have hbq : Below wr.heap.size wr w6 := by
      obtain ⟨pq, rfl⟩ := hw6
      exact below_regrown _ _ _
     clear hw6
     go_wp2
     go_roundw
     case rel => exact ⟨j + 1, by omega, by go_num, hb0.trans (hbq.mono hb0.size)⟩
     case measure => simp [intOf]; omega
    ·obtain rfl : j = u.nt := by omega
     have kp0 := keepc hb0 p0
     have kp1 := keepc hb0 p1
     have kp2 := keepc hb0 p2
     have kp3 := keepc hb0 p3
     have kp4 := keepc hb0 p4
     have kq0 := keepc hb0 q0
     have kq1 := keepc hb0 q1
     have kq2 := keepc hb0 q2
     have kq3 := keepc hb0 q3
     have kq4 := keepc hb0 q4
     have kq5 := keepc hb0 q5
     have kq6 := keepc hb0 q6
     have kq7 := keepc hb0 q7
     have kq8 := keepc hb0 q8
     go_wp2_with fail
     refine (specOwners7_ok u p v L s _ (HP3.out.below hb0) (H3.out.below hb0) HF.out).mono ?_
     rintro e w4 ⟨rfl, hb⟩
     go_wp2
     go_ret
     have hb3 := HB3.out.trans (hb0.mono HB3.out.size)
     exact ⟨rfl, hb3.trans (hb.mono hb3.size)⟩
theorem specReady7_ok (v : StV) (L : StL) (s : StD) (w : World) (hr : StR w v L s) (hn : s.status.length ≤ 1048576) :
  Calls Try.prog 22 #[.agg #[.slice v.pl.a v.pl.n v.pl.c, .slice v.st.a v.st.n v.st.c, .slice v.se.a v.se.n v.se.c, .slice v.on.a v.on.n v.on.c, .slice v.gr.a v.gr.n v.gr.c, .slice v.ba.a v.ba.n v.ba.c, .slice v.ch.a v.ch.n v.ch.c, .slice v.sa.a v.sa.n v.sa.c, .int .i64 v.fl]] w fun e w' => ∃ (a : Option Addr) (c : Nat), e = .returned (.slice a (readyOf s).length c) ∧ w'.ownsRow w.heap.size 3 1 (.slice a (readyOf s).length c) (readyOf s).length (ints (readyOf s)) ∧ Below w.heap.size w w' := by
 have HS := xH1 hr
 have LST := xH1 hr.st.len
 have nst : v.st.n ≤ 1048576 := by rw [hr.st.len]; exact hn
 have HFL := xH1 hr.fl
 have HST := xH1 hr.st.rd
 clear hr hn
 obtain ⟨W0, hW0⟩ : ∃ W0 : World, W0 = ((w.alloc (.cells #[.slice v.pl.a v.pl.n v.pl.c, .slice v.st.a v.st.n v.st.c, .slice v.se.a v.se.n v.se.c, .slice v.on.a v.on.n v.on.c, .slice v.gr.a v.gr.n v.gr.c, .slice v.ba.a v.ba.n v.ba.c, .slice v.ch.a v.ch.n v.ch.c, .slice v.sa.a v.sa.n v.sa.c, .int .i64 v.fl] 44)).alloc (.cells #[] 3)) := ⟨_, rfl⟩
 have B0 : Below w.heap.size w W0 := by
  rw [hW0]
  exact ((xB1.alloc (by simp) _).alloc (by simp) _)
 have kS : Blk W0 (w.heap.size) #[.slice v.pl.a v.pl.n v.pl.c, .slice v.st.a v.st.n v.st.c, .slice v.se.a v.se.n v.se.c, .slice v.on.a v.on.n v.on.c, .slice v.gr.a v.gr.n v.gr.c, .slice v.ba.a v.ba.n v.ba.c, .slice v.ch.a v.ch.n v.ch.c, .slice v.sa.a v.sa.n v.sa.c, .int .i64 v.fl] 44 := by
  rw [hW0]
  have h := Blk.new w #[.slice v.pl.a v.pl.n v.pl.c, .slice v.st.a v.st.n v.st.c, .slice v.se.a v.se.n v.se.c, .slice v.on.a v.on.n v.on.c, .slice v.gr.a v.gr.n v.gr.c, .slice v.ba.a v.ba.n v.ba.c, .slice v.ch.a v.ch.n v.ch.c, .slice v.sa.a v.sa.n v.sa.c, .int .i64 v.fl] 44
  exact h |>.alloc _
 have kE : Blk W0 (w.heap.size + 1) #[] 3 := by
  rw [hW0]
  have h := Blk.new (w.alloc (.cells #[.slice v.pl.a v.pl.n v.pl.c, .slice v.st.a v.st.n v.st.c, .slice v.se.a v.se.n v.se.c, .slice v.on.a v.on.n v.on.c, .slice v.gr.a v.gr.n v.gr.c, .slice v.ba.a v.ba.n v.ba.c, .slice v.ch.a v.ch.n v.ch.c, .slice v.sa.a v.sa.n v.sa.c, .int .i64 v.fl] 44)) #[] 3
  simp only [World.size_alloc] at h
  exact h
 have hS0 : W0.heap.size = w.heap.size + 2 := by rw [hW0]; simp
 have q1 := kS.cell 1 rfl
 have q8 := kS.cell 8 rfl
 have H0 := xH1 (HS.out.below B0)
 have HE := xH1 (owns_of_blk (B := w.heap.size + 1) kE xL1 (sz := 1) (m := 0) rfl (Nat.zero_le _))
 have HB := xH1 B0
 clear HS B0 kS kE
 by_cases hf : v.fl = 0
 rotate_left
 ·have t0 : (v.fl == 0) = false := by simpa using hf
  have HRD : Hid (readyOf s = []) := xH1 (by rw [ready_eq, if_neg (by rw [← HFL.out]; exact hf)])
  clear hf
  rw [HRD.out]
  go_enter Try.func22, Try.ntmps22
  go_wp2
  rw [← hW0]
  clear hW0
  go_loopw [4, 3] (fun i z wr => i = .int .i64 0 ∧ z = .slice (some ⟨w.heap.size + 1, 0, none⟩) 0 0 ∧ wr = W0) (fun _ _ _ => 0)
  case atStart => exact ⟨rfl, rfl, rfl⟩
  case round =>
   obtain ⟨rfl, rfl, rfl⟩ := hrel
   by_cases h0 : 0 < v.st.n
   ·have d0 : decide ((0 : Int) < (v.st.n : Int)) = true := decide_eq_true (by omega)
    go_wp2
    go_ret
    exact ⟨_, _, rfl, owns_mono HE.out (by omega), HB.out⟩
   ·have d0 : decide ((0 : Int) < (v.st.n : Int)) = false := decide_eq_false (by omega)
    go_wp2
    go_ret
    exact ⟨_, _, rfl, owns_mono HE.out (by omega), HB.out⟩
 ·have t0 : (v.fl == 0) = true := by simpa using hf
  have HRD : Hid (readyOf s = rdyTo s v.st.n) := xH1 (by rw [ready_eq, if_pos (by rw [← HFL.out]; exact hf), LST.out])
  clear hf
  rw [HRD.out]
  go_enter Try.func22, Try.ntmps22
  go_wp2
  rw [← hW0]
  clear hW0
  go_loopw [4, 3] (fun i z wr => ∃ (j : Nat) (a : Option Addr) (l c : Nat), j ≤ v.st.n ∧ i = .int .i64 j ∧ z = .slice a l c ∧ Hid (wr.ownsRow (w.heap.size + 1) 3 1 (.slice a l c) l (ints (rdyTo s j))) ∧ l ≤ j ∧ Below (w.heap.size + 1) W0 wr) (fun i _ _ => v.st.n - (intOf i).toNat)
  case atStart => exact ⟨0, _, 0, 0, by omega, rfl, rfl, HE, by omega, Below.refl _ _⟩
  case round =>
   obtain ⟨j, a, l, c, hj, rfl, rfl, ho, hl, hb0⟩ := hrel
   have c1 := keepB hb0 (by show w.heap.size < w.heap.size + 1; omega) q1
   have c8 := keepB hb0 (by show w.heap.size < w.heap.size + 1; omega) q8
   have hbw := HB.out.trans (hb0.mono (by omega))
   have hsw : w.heap.size + 1 ≤ wr.heap.size := by have := hb0.size; omega
   by_cases hlt : j < v.st.n
   ·obtain ⟨b, o, ea, g'⟩ := (HST.out.below hbw).int (by have := LST.out; omega)
    have g := g' j (by have := LST.out; omega)
    obtain ⟨x, hx⟩ : ∃ x, x = s.status.getD j 0 := ⟨_, rfl⟩
    rw [← hx] at g
    rw [ea] at c1
    have HX := xH1 hx
    have i0 : (0 : Int) ≤ (j : Int) := by omega
    have i1 : (j : Int) < (v.st.n : Int) := by omega
    have hsu := rdyTo_succ s j
    rw [← hx] at hsu
    clear hx ea g'
    by_cases hx0 : x = 0 ∨ x = 2
    ·rw [if_pos hx0] at hsu
     have HSU := xH1 hsu
     clear hsu
     rcases hx0 with rfl | rfl
     ·go_wp2_with (at_builtin; refine wpList_append_sl (m := 1) (cm := 1) (news := [.int .i64 j]) rfl _ _ 23 rfl Try.underlying23 info_int rfl (by decide) rfl ho.out rfl rfl rfl (by simp [Value.oneCell']) (by omega) (by decide) hsw ?_; intro a3 c3 w3 ho3 hg3; have HO3 := xH1 ho3; have HG3 := xH1 hg3; clear ho3 hg3)
      go_roundw
      case rel => exact ⟨j + 1, a3, l + 1, c3, by omega, by go_num, rfl, xH1 (by rw [HSU.out]; simpa [ints] using HO3.out), by omega, hb0.trans (below_of_grown HG3.out hsw (fun q hq => (owns_row ho.out q hq).1))⟩
      case measure => simp [intOf]; omega
     ·go_wp2_with (at_builtin; refine wpList_append_sl (m := 1) (cm := 1) (news := [.int .i64 j]) rfl _ _ 23 rfl Try.underlying23 info_int rfl (by decide) rfl ho.out rfl rfl rfl (by simp [Value.oneCell']) (by omega) (by decide) hsw ?_; intro a3 c3 w3 ho3 hg3; have HO3 := xH1 ho3; have HG3 := xH1 hg3; clear ho3 hg3)
      go_roundw
      case rel => exact ⟨j + 1, a3, l + 1, c3, by omega, by go_num, rfl, xH1 (by rw [HSU.out]; simpa [ints] using HO3.out), by omega, hb0.trans (below_of_grown HG3.out hsw (fun q hq => (owns_row ho.out q hq).1))⟩
      case measure => simp [intOf]; omega
    ·rw [if_neg hx0] at hsu
     have HSU := xH1 hsu
     have t1 : (x == 0) = false := by simp; omega
     have t2 : (x == 2) = false := by simp; omega
     clear hsu hx0
     go_wp2
     go_roundw
     case rel => exact ⟨j + 1, a, l, c, by omega, by go_num, rfl, by rw [HSU.out]; exact ho, by omega, hb0⟩
     case measure => simp [intOf]; omega
   ·obtain rfl : j = v.st.n := by omega
    go_wp2
    have hll : l = (rdyTo s v.st.n).length := by have := ho.out.1; rw [List.length_map] at this; omega
    have ho' := ho.out
    rw [hll] at ho' ⊢
    go_ret
    exact ⟨a, c, rfl, owns_mono ho' (by omega), hbw⟩
theorem specReadyThreads_ok (u : PV) (p : Pg) (v : StV) (L : StL) (s : StD) (w : World) (hp : RdP w u p) (hr : StR w v L s) (hf : Fits p s) :
  Calls Try.prog 36 #[.agg #[.slice u.s u.ns u.cs, .slice u.g u.ng u.cg, .slice u.b u.nb u.cb, .slice u.r u.nr u.cr, .slice u.t u.nt u.ct], .agg #[.slice v.pl.a v.pl.n v.pl.c, .slice v.st.a v.st.n v.st.c, .slice v.se.a v.se.n v.se.c, .slice v.on.a v.on.n v.on.c, .slice v.gr.a v.gr.n v.gr.c, .slice v.ba.a v.ba.n v.ba.c, .slice v.ch.a v.ch.n v.ch.c, .slice v.sa.a v.sa.n v.sa.c, .int .i64 v.fl]] w fun e w' => ∃ (a : Option Addr) (c : Nat), e = .returned (.slice a (readyOf s).length c) ∧ w'.ownsRow w.heap.size 3 1 (.slice a (readyOf s).length c) (readyOf s).length (ints (readyOf s)) ∧ Below w.heap.size w w' := by
 have HS := xH1 hr
 have HP := xH1 hp
 have HF := xH1 hf
 clear hp hr hf
 obtain ⟨W0, hW0⟩ : ∃ W0 : World, W0 = ((w.alloc (.cells #[.slice u.s u.ns u.cs, .slice u.g u.ng u.cg, .slice u.b u.nb u.cb, .slice u.r u.nr u.cr, .slice u.t u.nt u.ct] 31)).alloc (.cells #[.slice v.pl.a v.pl.n v.pl.c, .slice v.st.a v.st.n v.st.c, .slice v.se.a v.se.n v.se.c, .slice v.on.a v.on.n v.on.c, .slice v.gr.a v.gr.n v.gr.c, .slice v.ba.a v.ba.n v.ba.c, .slice v.ch.a v.ch.n v.ch.c, .slice v.sa.a v.sa.n v.sa.c, .int .i64 v.fl] 44)) := ⟨_, rfl⟩
 have B0 : Below w.heap.size w W0 := by
  rw [hW0]
  exact ((xB1.alloc (by simp) _).alloc (by simp) _)
 have kP : Blk W0 (w.heap.size) #[.slice u.s u.ns u.cs, .slice u.g u.ng u.cg, .slice u.b u.nb u.cb, .slice u.r u.nr u.cr, .slice u.t u.nt u.ct] 31 := by
  rw [hW0]
  have h := Blk.new w #[.slice u.s u.ns u.cs, .slice u.g u.ng u.cg, .slice u.b u.nb u.cb, .slice u.r u.nr u.cr, .slice u.t u.nt u.ct] 31
  exact h |>.alloc _
 have kS : Blk W0 (w.heap.size + 1) #[.slice v.pl.a v.pl.n v.pl.c, .slice v.st.a v.st.n v.st.c, .slice v.se.a v.se.n v.se.c, .slice v.on.a v.on.n v.on.c, .slice v.gr.a v.gr.n v.gr.c, .slice v.ba.a v.ba.n v.ba.c, .slice v.ch.a v.ch.n v.ch.c, .slice v.sa.a v.sa.n v.sa.c, .int .i64 v.fl] 44 := by
  rw [hW0]
  have h := Blk.new (w.alloc (.cells #[.slice u.s u.ns u.cs, .slice u.g u.ng u.cg, .slice u.b u.nb u.cb, .slice u.r u.nr u.cr, .slice u.t u.nt u.ct] 31)) #[.slice v.pl.a v.pl.n v.pl.c, .slice v.st.a v.st.n v.st.c, .slice v.se.a v.se.n v.se.c, .slice v.on.a v.on.n v.on.c, .slice v.gr.a v.gr.n v.gr.c, .slice v.ba.a v.ba.n v.ba.c, .slice v.ch.a v.ch.n v.ch.c, .slice v.sa.a v.sa.n v.sa.c, .int .i64 v.fl] 44
  simp only [World.size_alloc] at h
  exact h
 have hS0 : W0.heap.size = w.heap.size + 2 := by rw [hW0]; simp
 have p0 := kP.cell 0 rfl
 have p1 := kP.cell 1 rfl
 have p2 := kP.cell 2 rfl
 have p3 := kP.cell 3 rfl
 have p4 := kP.cell 4 rfl
 have q0 := kS.cell 0 rfl
 have q1 := kS.cell 1 rfl
 have q2 := kS.cell 2 rfl
 have q3 := kS.cell 3 rfl
 have q4 := kS.cell 4 rfl
 have q5 := kS.cell 5 rfl
 have q6 := kS.cell 6 rfl
 have q7 := kS.cell 7 rfl
 have q8 := kS.cell 8 rfl
 have H0 := xH1 (HS.out.below B0)
 have HP0 := xH1 (HP.out.below B0)
 have HB := xH1 B0
 clear HS HP B0 kS kP
 go_enter Try.func36, Try.ntmps36
 go_wp2_with fail
 rw [← hW0]
 clear hW0
 refine (specFits_ok u p v L s _ HP0.out H0.out HF.out).mono ?_
 rintro e w1 ⟨rfl, hb⟩
 have H1 := xH1 (H0.out.below hb)
 have HB1 := xH1 (HB.out.trans (hb.mono HB.out.size))
 replace p0 := keepc hb p0
 replace p1 := keepc hb p1
 replace p2 := keepc hb p2
 replace p3 := keepc hb p3
 replace p4 := keepc hb p4
 replace q0 := keepc hb q0
 replace q1 := keepc hb q1
 replace q2 := keepc hb q2
 replace q3 := keepc hb q3
 replace q4 := keepc hb q4
 replace q5 := keepc hb q5
 replace q6 := keepc hb q6
 replace q7 := keepc hb q7
 replace q8 := keepc hb q8
 clear hb H0 HP0 HB
 go_wp2_with fail
 refine (specReady7_ok v L s _ H1.out (by rw [HF.out.nst]; have := (valid_threads HF.out.prog).2; omega)).mono ?_
 rintro e w2 ⟨a, c, rfl, ho, hb⟩
 have HO := xH1 (owns_mono ho HB1.out.size)
 clear ho
 go_wp2
 go_ret
 exact ⟨a, c, rfl, HO.out, HB1.out.trans (hb.mono HB1.out.size)⟩
end Go.Proofs.Ytfpgijihiifogaa
