/- Part of a proof: MShared. -/
import Derived.Test.YtfpgijihiifogaaQPMachK
import Derived.Test.YtfpgijihiifogaaQRCopy
import Derived.Test.YtfpgijihiifogaaQMChnS2
import Derived.Test.YtfpgijihiifogaaQMBarS
set_option maxRecDepth 100000
set_option maxHeartbeats 16000000
namespace Go.Proofs.Ytfpgijihiifogaa
open Go.RowKit Go.Sort
theorem specShared_ok (u : PV) (p : Pg) (v : StV) (L : StL) (s : StD) (w : World) (hp : RdP w u p) (hv : progValid p = true) (hr : StR w v L s) (hf : Things p s) :
  Calls Try.prog 60 #[.agg #[.slice u.s u.ns u.cs, .slice u.g u.ng u.cg, .slice u.b u.nb u.cb, .slice u.r u.nr u.cr, .slice u.t u.nt u.ct], .agg #[.slice v.pl.a v.pl.n v.pl.c, .slice v.st.a v.st.n v.st.c, .slice v.se.a v.se.n v.se.c, .slice v.on.a v.on.n v.on.c, .slice v.gr.a v.gr.n v.gr.c, .slice v.ba.a v.ba.n v.ba.c, .slice v.ch.a v.ch.n v.ch.c, .slice v.sa.a v.sa.n v.sa.c, .int .i64 v.fl]] w fun e w' => e = .returned (.bool true) ∧ Below w.heap.size w w' := by
 have HS := xH1 hr
 have HP := xH1 hp
 have HF := xH1 hf
 obtain ⟨z1, z2, z3, z4, -, -⟩ := valid_small hv
 have es : v.se.n = u.ns := by rw [hr.se.len, hf.nse, hp.ls]
 have eg : v.gr.n = u.ng := by rw [hr.gr.len, hf.ngr, hp.lg]
 have eb : v.ba.n = u.nb := by rw [hr.ba.len, hf.nba, hp.lb]
 have ec : v.ch.n = u.nr := by rw [hr.ch.len, hf.nch, hp.lr]
 have eo : v.on.n = 3 := by rw [hr.on.len, hf.non]
 have m1 : ((v.se.n : Int) != (u.ns : Int)) = false := by rw [es]; simp
 have m2 : ((v.on.n : Int) != 3) = false := by rw [eo]; rfl
 have m3 : ((v.gr.n : Int) != (u.ng : Int)) = false := by rw [eg]; simp
 have m4 : ((v.ba.n : Int) != (u.nb : Int)) = false := by rw [eb]; simp
 have m5 : ((v.ch.n : Int) != (u.nr : Int)) = false := by rw [ec]; simp
 have Lse := xH1 hr.se.len
 have Lon := xH1 hr.on.len
 have Lgr := xH1 hr.gr.len
 have Lba := xH1 hr.ba.len
 have Lch := xH1 hr.ch.len
 have Es := xH1 es
 have Eb := xH1 eb
 have Ec := xH1 ec
 have zse : v.se.n ≤ 3 := by rw [es, ← hp.ls]; exact z1
 have zgr : v.gr.n ≤ 3 := by rw [eg, ← hp.lg]; exact z2
 have zba : v.ba.n ≤ 3 := by rw [eb, ← hp.lb]; exact z3
 have zch : v.ch.n ≤ 3 := by rw [ec, ← hp.lr]; exact z4
 have zon : v.on.n ≤ 3 := by omega
 clear es eg eb ec eo hr hp hf hv z1 z2 z3 z4
 obtain ⟨W0, hW0⟩ : ∃ W0 : World, W0 = ((w.alloc (.cells #[.slice u.s u.ns u.cs, .slice u.g u.ng u.cg, .slice u.b u.nb u.cb, .slice u.r u.nr u.cr, .slice u.t u.nt u.ct] 31)).alloc (.cells #[.slice v.pl.a v.pl.n v.pl.c, .slice v.st.a v.st.n v.st.c, .slice v.se.a v.se.n v.se.c, .slice v.on.a v.on.n v.on.c, .slice v.gr.a v.gr.n v.gr.c, .slice v.ba.a v.ba.n v.ba.c, .slice v.ch.a v.ch.n v.ch.c, .slice v.sa.a v.sa.n v.sa.c, .int .i64 v.fl] 44)) := ⟨_, rfl⟩
 have B0 : Below w.heap.size w W0 := by
  rw [hW0]
  exact ((xB1.alloc (by simp) _).alloc (by simp) _)
 have kP : Blk W0 (w.heap.size) #[.slice u.s u.ns u.cs, .slice u.g u.ng u.cg, .slice u.b u.nb u.cb, .slice u.r u.nr u.cr, .slice u.t u.nt u.ct] 31 := by
  rw [hW0]
  have h := Blk.new w #[.slice u.s u.ns u.cs, .slice u.g u.ng u.cg, .slice u.b u.nb u.cb, .slice u.r u.nr u.cr, .slice u.t u.nt u.ct] 31
  exact h |>.alloc _
 have kS : Blk W0 (w.heap.size + 1) #[.slice v.pl.a v.pl.n v.pl.c, .slice v.st.a v.st.n v.st.c, .slice v.se.a v.se.n v.se.c, .slice v.on.a v.on.n v.on.c, .slice v.gr.a v.gr.n v.gr.c, .slice v.ba.a v.ba.n v.ba.c, .slice v.ch.a v.ch.n v.ch.c, .slice v.sa.a v.sa.n v.sa.c, .int .i64 v.fl] 44 := by
  rw [hW0]
  have h := Blk.new (w.alloc (.cells #[.slice u.s u.ns u.cs, .slice u.g u.ng u.cg, .slice u.b u.nb u.cb, .slice u.r u.nr u.cr, .slice u.t u.nt u.ct] 31)) #[.slice v.pl.a v.pl.n v.pl.c, .slice v.st.a v.st.n v.st.c, .slice v.se.a v.se.n v.se.c, .slice v.on.a v.on.n v.on.c, .slice v.gr.a v.gr.n v.gr.c, .slice v.ba.a v.ba.n v.ba.c, .slice v.ch.a v.ch.n v.ch.c, .slice v.sa.a v.sa.n v.sa.c, .int .i64 v.fl] 44
  simp only [World.size_alloc] at h
  exact h
 have hS0 : W0.heap.size = w.heap.size + 2 := by rw [hW0]; simp
 have p0 := kP.cell 0 rfl
 have p1 := kP.cell 1 rfl
 have p2 := kP.cell 2 rfl
 have p3 := kP.cell 3 rfl
 have q0 := kS.cell 0 rfl
 have q1 := kS.cell 1 rfl
 have q2 := kS.cell 2 rfl
 have q3 := kS.cell 3 rfl
 have q4 := kS.cell 4 rfl
 have q5 := kS.cell 5 rfl
 have q6 := kS.cell 6 rfl
 have q7 := kS.cell 7 rfl
 have q8 := kS.cell 8 rfl
 have H0 := xH1 (HS.out.below B0)
 have HP0 := xH1 (HP.out.below B0)
 have HB := xH1 B0
 clear HS HP B0 kS kP
 go_enter Try.func60, Try.ntmps60
 go_wp2
 rw [← hW0]
 clear hW0
 go_loopw [5] (fun i wr => ∃ j : Nat, j ≤ v.se.n ∧ i = .int .i64 j ∧ Below W0.heap.size W0 wr) (fun i _ => v.se.n - (intOf i).toNat)
 case atStart => exact ⟨0, by omega, rfl, Below.refl _ _⟩
 case round =>
  obtain ⟨j, hj, rfl, hb0⟩ := hrel
  have cq := keepc hb0 q2
  have cp := keepc hb0 p0
  by_cases hlt : j < v.se.n
  rotate_left
  ·obtain rfl : j = v.se.n := by omega
   go_wp2
   obtain ⟨WZ0, hWZ0⟩ : ∃ W', W' = wr := ⟨_, rfl⟩
   rw [← hWZ0] at hb0 ⊢
   have BB0 := hb0
   clear hb0 cq cp hlt hWZ0 hj
   go_loopw [6] (fun i wr => ∃ j : Nat, j ≤ v.on.n ∧ i = .int .i64 j ∧ Below W0.heap.size W0 wr) (fun i _ => v.on.n - (intOf i).toNat)
   case atStart => exact ⟨0, by omega, rfl, BB0⟩
   case round =>
    obtain ⟨j, hj, rfl, hb0⟩ := hrel
    have cq := keepc hb0 q3
    by_cases hlt : j < v.on.n
    rotate_left
    ·obtain rfl : j = v.on.n := by omega
     go_wp2
     obtain ⟨WZ1, hWZ1⟩ : ∃ W', W' = wr := ⟨_, rfl⟩
     rw [← hWZ1] at hb0 ⊢
     have BB1 := hb0
     clear hb0 cq hlt hWZ1 hj
     go_loopw [7] (fun i wr => ∃ j : Nat, j ≤ v.gr.n ∧ i = .int .i64 j ∧ Below W0.heap.size W0 wr) (fun i _ => v.gr.n - (intOf i).toNat)
     case atStart => exact ⟨0, by omega, rfl, BB1⟩
     case round =>
      obtain ⟨j, hj, rfl, hb0⟩ := hrel
      have cq := keepc hb0 q4
      by_cases hlt : j < v.gr.n
      rotate_left
      ·obtain rfl : j = v.gr.n := by omega
       go_wp2
       obtain ⟨WZ2, hWZ2⟩ : ∃ W', W' = wr := ⟨_, rfl⟩
       rw [← hWZ2] at hb0 ⊢
       have BB2 := hb0
       clear hb0 cq hlt hWZ2 hj
       go_loopw [8] (fun i wr => ∃ j : Nat, j ≤ v.ba.n ∧ i = .int .i64 j ∧ Below W0.heap.size W0 wr) (fun i _ => v.ba.n - (intOf i).toNat)
       case atStart => exact ⟨0, by omega, rfl, BB2⟩
       case round =>
        obtain ⟨j, hj, rfl, hb0⟩ := hrel
        have cq := keepc hb0 q5
        have cp := keepc hb0 p2
        by_cases hlt : j < v.ba.n
        rotate_left
        ·obtain rfl : j = v.ba.n := by omega
         go_wp2
         obtain ⟨WZ3, hWZ3⟩ : ∃ W', W' = wr := ⟨_, rfl⟩
         rw [← hWZ3] at hb0 ⊢
         have BB3 := hb0
         clear hb0 cq cp hlt hWZ3 hj
         go_loopw [9] (fun i wr => ∃ j : Nat, j ≤ v.ch.n ∧ i = .int .i64 j ∧ Below W0.heap.size W0 wr) (fun i _ => v.ch.n - (intOf i).toNat)
         case atStart => exact ⟨0, by omega, rfl, BB3⟩
         case round =>
          obtain ⟨j, hj, rfl, hb0⟩ := hrel
          have cq := keepc hb0 q6
          have cp := keepc hb0 p3
          by_cases hlt : j < v.ch.n
          rotate_left
          ·obtain rfl : j = v.ch.n := by omega
           go_wp2
           go_ret
           exact ⟨rfl, HB.out.trans (hb0.mono HB.out.size)⟩
          ·have hjs : j < s.chans.length := by have := Lch.out; omega
           obtain ⟨x, q, b1, o1, HX, ea, g0, g1, g2, g3, g4, Q0, QL0, QC0, Q1, QL1, QC1, Q2, QL2, QC2⟩ := (H0.out.below hb0).at_ch (j := j) hjs
           have hok := HF.out.ch j hjs
           rw [← HX.out] at hok
           have HOK := xH1 hok.1
           have HOE := xH1 hok.2
           clear hok
           obtain ⟨b2, o2, eap, g2'⟩ := HP0.out.rr.int (by rw [HP0.out.lr]; have := Ec.out; omega)
           have gp := keepc hb0 (g2' j (by rw [HP0.out.lr]; have := Ec.out; omega))
           rw [← HOE.out] at gp
           rw [eap] at cp
           have hju : j < u.nr := by have := Ec.out; omega
           have i2 : (j : Int) < (u.nr : Int) := by omega
           clear g2' eap hju
           rw [ea] at cq
           have i0 : (0 : Int) ≤ (j : Int) := by omega
           have i1 : (j : Int) < v.ch.n := by omega
           clear ea hjs
           have k0 := cell_regrown g0
           have k1 := cell_regrown g1
           have k2 := cell_regrown g2
           have k3 := cell_regrown g3
           have k4 := cell_regrown g4
           have kq := cell_regrown cq
           have kp := cell_regrown cp
           have kgp := cell_regrown gp
           have tt : (x.room != x.room) = false := by simp
           have cV : Hid (∀ d os, Calls Try.prog 80 #[.agg #[.int .i64 x.room, .slice q.1.a q.1.n q.1.c, .slice q.2.1.a q.2.1.n q.2.1.c, .slice q.2.2.a q.2.2.n q.2.2.c, .bool x.closed]] (grow (redrawn wr d) os) fun e w'' => e = .returned (.bool true) ∧ ∃ p : Regrown, w'' = grow (redrawn wr p.d) p.os) := xH1 (fun d os => Calls.regrown_of (specChanValid_ok x q.1.a q.2.1.a q.2.2.a q.1.n q.1.c q.2.1.n q.2.1.c q.2.2.n q.2.2.c _ QL0.out.symm QL1.out.symm QL2.out.symm QC2.out (Q0.out.below (below_regrown wr d os)) (Q1.out.below (below_regrown wr d os)) (Q2.out.below (below_regrown wr d os)) HOK.out))
           go_wp2
           refine wp_region_quiet_below (by kernel_rfl) (by kernel_rfl) ?_
           repeat (go_big_quiet_step (exact cV.out _ _))
           refine wpQuiet_nil ?_
           intro w6 hw6
           have hbq : Below wr.heap.size wr w6 := by
            obtain ⟨pq, rfl⟩ := hw6
            exact below_regrown _ _ _
           clear hw6
           go_wp2
           go_roundw
           case rel => exact ⟨j + 1, by omega, by go_num, hb0.trans (hbq.mono hb0.size)⟩
           case measure => simp [intOf]; omega
        ·have hjs : j < s.bars.length := by have := Lba.out; omega
         obtain ⟨x, q, b1, o1, HX, ea, g0, g1, g2, Q0, QL0, QC0⟩ := (H0.out.below hb0).at_ba (j := j) hjs
         have hok := HF.out.ba j hjs
         rw [← HX.out] at hok
         have HOK := xH1 hok.1
         have HOE := xH1 hok.2
         clear hok
         obtain ⟨b2, o2, eap, g2'⟩ := HP0.out.rb.int (by rw [HP0.out.lb]; have := Eb.out; omega)
         have gp := keepc hb0 (g2' j (by rw [HP0.out.lb]; have := Eb.out; omega))
         rw [← HOE.out] at gp
         rw [eap] at cp
         have hju : j < u.nb := by have := Eb.out; omega
         have i2 : (j : Int) < (u.nb : Int) := by omega
         clear g2' eap hju
         rw [ea] at cq
         have i0 : (0 : Int) ≤ (j : Int) := by omega
         have i1 : (j : Int) < v.ba.n := by omega
         clear ea hjs
         have k0 := cell_regrown g0
         have k1 := cell_regrown g1
         have k2 := cell_regrown g2
         have kq := cell_regrown cq
         have kp := cell_regrown cp
         have kgp := cell_regrown gp
         have tt : (x.parties != x.parties) = false := by simp
         have cV : Hid (∀ d os, Calls Try.prog 75 #[.agg #[.int .i64 x.parties, .int .i64 x.round, .slice q.a q.n q.c]] (grow (redrawn wr d) os) fun e w'' => e = .returned (.bool true) ∧ ∃ p : Regrown, w'' = grow (redrawn wr p.d) p.os) := xH1 (fun d os => Calls.regrown_of (specBarValid_ok x q.a q.n q.c _ QL0.out.symm QC0.out (Q0.out.below (below_regrown wr d os)) HOK.out))
         go_wp2
         refine wp_region_quiet_below (by kernel_rfl) (by kernel_rfl) ?_
         repeat (go_big_quiet_step (exact cV.out _ _))
         refine wpQuiet_nil ?_
         intro w6 hw6
         have hbq : Below wr.heap.size wr w6 := by
          obtain ⟨pq, rfl⟩ := hw6
          exact below_regrown _ _ _
         clear hw6
         go_wp2
         go_roundw
         case rel => exact ⟨j + 1, by omega, by go_num, hb0.trans (hbq.mono hb0.size)⟩
         case measure => simp [intOf]; omega
      ·have hjs : j < s.groups.length := by have := Lgr.out; omega
       obtain ⟨x, q, b1, o1, HX, ea, g0, g1, Q0, QL0, QC0⟩ := (H0.out.below hb0).at_gr (j := j) hjs
       have hok := HF.out.gr j hjs
       rw [← HX.out] at hok
       have HOK := xH1 hok
       clear hok
       rw [ea] at cq
       have i0 : (0 : Int) ≤ (j : Int) := by omega
       have i1 : (j : Int) < v.gr.n := by omega
       clear ea hjs
       go_wp2_with fail
       refine (specGroupValid_ok x q.a q.n q.c _ QL0.out.symm QC0.out (Q0.out) HOK.out).mono ?_
       rintro e w6 ⟨rfl, hbq⟩
       go_wp2
       go_roundw
       case rel => exact ⟨j + 1, by omega, by go_num, hb0.trans (hbq.mono hb0.size)⟩
       case measure => simp [intOf]; omega
    ·have hjs : j < s.onces.length := by have := Lon.out; omega
     obtain ⟨x, q, b1, o1, HX, ea, g0, g1, g2, g3, Q0, QL0, QC0⟩ := (H0.out.below hb0).at_on (j := j) hjs
     have hok := HF.out.on j hjs
     rw [← HX.out] at hok
     have HOK := xH1 hok
     clear hok
     rw [ea] at cq
     have i0 : (0 : Int) ≤ (j : Int) := by omega
     have i1 : (j : Int) < v.on.n := by omega
     clear ea hjs
     go_wp2_with fail
     refine (specOnceValid_ok x q.a q.n q.c _ QL0.out.symm QC0.out (Q0.out) HOK.out).mono ?_
     rintro e w6 ⟨rfl, hbq⟩
     go_wp2
     go_roundw
     case rel => exact ⟨j + 1, by omega, by go_num, hb0.trans (hbq.mono hb0.size)⟩
     case measure => simp [intOf]; omega
  ·have hjs : j < s.sems.length := by have := Lse.out; omega
   obtain ⟨x, q, b1, o1, HX, ea, g0, g1, g2, Q0, QL0, QC0⟩ := (H0.out.below hb0).at_se (j := j) hjs
   have hok := HF.out.se j hjs
   rw [← HX.out] at hok
   have HOK := xH1 hok.1
   have HOE := xH1 hok.2
   clear hok
   obtain ⟨b2, o2, eap, g2'⟩ := HP0.out.rs.int (by rw [HP0.out.ls]; have := Es.out; omega)
   have gp := keepc hb0 (g2' j (by rw [HP0.out.ls]; have := Es.out; omega))
   rw [← HOE.out] at gp
   rw [eap] at cp
   have hju : j < u.ns := by have := Es.out; omega
   have i2 : (j : Int) < (u.ns : Int) := by omega
   clear g2' eap hju
   rw [ea] at cq
   have i0 : (0 : Int) ≤ (j : Int) := by omega
   have i1 : (j : Int) < v.se.n := by omega
   clear ea hjs
   have k0 := cell_regrown g0
   have k1 := cell_regrown g1
   have k2 := cell_regrown g2
   have kq := cell_regrown cq
   have kp := cell_regrown cp
   have kgp := cell_regrown gp
   have tt : (x.limit != x.limit) = false := by simp
   have cV : Hid (∀ d os, Calls Try.prog 68 #[.agg #[.int .i64 x.free, .int .i64 x.limit, .slice q.a q.n q.c]] (grow (redrawn wr d) os) fun e w'' => e = .returned (.bool true) ∧ ∃ p : Regrown, w'' = grow (redrawn wr p.d) p.os) := xH1 (fun d os => Calls.regrown_of (specSemValid_ok x q.a q.n q.c _ QL0.out.symm (Q0.out.below (below_regrown wr d os)) HOK.out))
   go_wp2
   refine wp_region_quiet_below (by kernel_rfl) (by kernel_rfl) ?_
   repeat (go_big_quiet_step (exact cV.out _ _))
   refine wpQuiet_nil ?_
   intro w6 hw6
   have hbq : Below wr.heap.size wr w6 := by
    obtain ⟨pq, rfl⟩ := hw6
    exact below_regrown _ _ _
   clear hw6
   go_wp2
   go_roundw
   case rel => exact ⟨j + 1, by omega, by go_num, hb0.trans (hbq.mono hb0.size)⟩
   case measure => simp [intOf]; omega
end Go.Proofs.Ytfpgijihiifogaa
