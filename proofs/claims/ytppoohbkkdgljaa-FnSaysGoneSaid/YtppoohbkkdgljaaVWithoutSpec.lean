/- Part of a proof: WithoutSpec. -/
import Derived.Test.YtppoohbkkdgljaaVWithout
set_option maxRecDepth 100000
set_option maxHeartbeats 16000000
namespace Go.Proofs.Ytppoohbkkdgljaa
open Go.RowKit
theorem zg5 (l : List OpD) (k : Nat) (hk : k < l.length) : hush (l.take (k + 1)) = hush (l.take k) ++ if zdQ (l.getD k noOp) = true then [] else [l.getD k noOp] := by
 unfold hush
 rw [zcp _ l k hk]
 cases zdQ (l.getD k noOp) <;> rfl
theorem zft (v : PV) (p : Pg) (w : World) (hr : RdP w v p) (hz : zbb v p) :
  Calls Try.prog 6 #[.agg #[.slice v.s v.ns v.cs, .slice v.g v.ng v.cg, .slice v.b v.nb v.cb, .slice v.r v.nr v.cr, .slice v.t v.nt v.ct]] w fun e w' => ∃ u : PV, e = .returned (.tuple #[.agg #[.slice u.s u.ns u.cs, .slice u.g u.ng u.cg, .slice u.b u.nb u.cb, .slice u.r u.nr u.cr, .slice u.t u.nt u.ct], .bool (zaM p).isSome]) ∧ RdP w' u ((zaM p).getD noPg) ∧ Below w.heap.size w w' := by
 have hs : v.ns ≤ maxLen ∧ v.ng ≤ maxLen ∧ v.nb ≤ maxLen ∧ v.nr ≤ maxLen := by
  obtain ⟨z1, z2, z3, z4, z5, z6⟩ := hz; unfold maxLen; omega
 have zz : Hid (v.ns ≤ maxLen ∧ v.ng ≤ maxLen ∧ v.nb ≤ maxLen ∧ v.nr ≤ maxLen) := xH1 hs
 have HZ := xH1 hz
 have z5 : v.nt ≤ 1048576 := hz.lt
 have Z6 := xH1 hz.inn
 have ls := xH1 hr.ls
 have lg := xH1 hr.lg
 have lb := xH1 hr.lb
 have lr := xH1 hr.lr
 have lt := xH1 hr.lt
 clear hz
 have B0 : Below w.heap.size w (w.alloc (.cells #[.slice v.s v.ns v.cs, .slice v.g v.ng v.cg, .slice v.b v.nb v.cb, .slice v.r v.nr v.cr, .slice v.t v.nt v.ct] 26)) := xA1
 have k0 : Blk (w.alloc (.cells #[.slice v.s v.ns v.cs, .slice v.g v.ng v.cg, .slice v.b v.nb v.cb, .slice v.r v.nr v.cr, .slice v.t v.nt v.ct] 26)) w.heap.size #[.slice v.s v.ns v.cs, .slice v.g v.ng v.cg, .slice v.b v.nb v.cb, .slice v.r v.nr v.cr, .slice v.t v.nt v.ct] 26 := Blk.new _ _ _
 have q0 : (w.alloc (.cells #[.slice v.s v.ns v.cs, .slice v.g v.ng v.cg, .slice v.b v.nb v.cb, .slice v.r v.nr v.cr, .slice v.t v.nt v.ct] 26)).cell? ⟨w.heap.size, 0, none⟩ = some (.slice v.s v.ns v.cs) := k0.cell 0 rfl
 have q1 : (w.alloc (.cells #[.slice v.s v.ns v.cs, .slice v.g v.ng v.cg, .slice v.b v.nb v.cb, .slice v.r v.nr v.cr, .slice v.t v.nt v.ct] 26)).cell? ⟨w.heap.size, 1, none⟩ = some (.slice v.g v.ng v.cg) := k0.cell 1 rfl
 have q2 : (w.alloc (.cells #[.slice v.s v.ns v.cs, .slice v.g v.ng v.cg, .slice v.b v.nb v.cb, .slice v.r v.nr v.cr, .slice v.t v.nt v.ct] 26)).cell? ⟨w.heap.size, 2, none⟩ = some (.slice v.b v.nb v.cb) := k0.cell 2 rfl
 have q3 : (w.alloc (.cells #[.slice v.s v.ns v.cs, .slice v.g v.ng v.cg, .slice v.b v.nb v.cb, .slice v.r v.nr v.cr, .slice v.t v.nt v.ct] 26)).cell? ⟨w.heap.size, 3, none⟩ = some (.slice v.r v.nr v.cr) := k0.cell 3 rfl
 have q4 : (w.alloc (.cells #[.slice v.s v.ns v.cs, .slice v.g v.ng v.cg, .slice v.b v.nb v.cb, .slice v.r v.nr v.cr, .slice v.t v.nt v.ct] 26)).cell? ⟨w.heap.size, 4, none⟩ = some (.slice v.t v.nt v.ct) := k0.cell 4 rfl
 clear k0
 obtain ⟨W0, hW0⟩ : ∃ W0 : World, W0 = ((w.alloc (.cells #[.slice v.s v.ns v.cs, .slice v.g v.ng v.cg, .slice v.b v.nb v.cb, .slice v.r v.nr v.cr, .slice v.t v.nt v.ct] 26)).alloc (.cells #[.slice none 0 0, .slice none 0 0, .slice none 0 0, .slice none 0 0, .slice none 0 0] 26)) := ⟨_, rfl⟩
 have b1 : Below (w.alloc (.cells #[.slice v.s v.ns v.cs, .slice v.g v.ng v.cg, .slice v.b v.nb v.cb, .slice v.r v.nr v.cr, .slice v.t v.nt v.ct] 26)).heap.size (w.alloc (.cells #[.slice v.s v.ns v.cs, .slice v.g v.ng v.cg, .slice v.b v.nb v.cb, .slice v.r v.nr v.cr, .slice v.t v.nt v.ct] 26)) ((w.alloc (.cells #[.slice v.s v.ns v.cs, .slice v.g v.ng v.cg, .slice v.b v.nb v.cb, .slice v.r v.nr v.cr, .slice v.t v.nt v.ct] 26)).alloc (.cells #[.slice none 0 0, .slice none 0 0, .slice none 0 0, .slice none 0 0, .slice none 0 0] 26)) := xA1
 have kR : Blk ((w.alloc (.cells #[.slice v.s v.ns v.cs, .slice v.g v.ng v.cg, .slice v.b v.nb v.cb, .slice v.r v.nr v.cr, .slice v.t v.nt v.ct] 26)).alloc (.cells #[.slice none 0 0, .slice none 0 0, .slice none 0 0, .slice none 0 0, .slice none 0 0] 26)) (w.heap.size + 1) #[.slice none 0 0, .slice none 0 0, .slice none 0 0, .slice none 0 0, .slice none 0 0] 26 := by simpa using Blk.new (w.alloc (.cells #[.slice v.s v.ns v.cs, .slice v.g v.ng v.cg, .slice v.b v.nb v.cb, .slice v.r v.nr v.cr, .slice v.t v.nt v.ct] 26)) #[.slice none 0 0, .slice none 0 0, .slice none 0 0, .slice none 0 0, .slice none 0 0] 26
 replace q0 := zd b1 q0
 replace q1 := zd b1 q1
 replace q2 := zd b1 q2
 replace q3 := zd b1 q3
 replace q4 := zd b1 q4
 replace B0 := B0.trans (b1.mono B0.size)
 have HW0 := xH1 hW0
 rw [← hW0] at q0 q1 q2 q3 q4 B0 kR
 clear b1 hW0
 rcases Bool.eq_false_or_eq_true (zq p) with hv | hv
 rotate_left
 ·have HN : Hid (zaM p = none) := xH1 (by unfold zaM zbm; rw [if_neg (by rw [hv]; simp)])
  have HV := xH1 hv
  clear hv
  go_enter Try.func6, Try.ntmps6
  go_wp2_with fail
  rw [← HW0.out]
  refine (za2 v p _ (hr.below B0) HZ.out).mono ?_
  rintro e w1 ⟨rfl, hb⟩
  rw [HV.out]
  have kR' := kR.below hb
  clear kR
  have kR := kR'
  clear kR'
  replace q0 := zd hb q0
  replace q1 := zd hb q1
  replace q2 := zd hb q2
  replace q3 := zd hb q3
  replace q4 := zd hb q4
  replace B0 := B0.trans (hb.mono B0.size)
  clear hb
  have y0 := kR.cell 0 rfl
  have x0 := kR.fz 0
  have y1 := kR.cell 1 rfl
  have x1 := kR.fz 1
  have y2 := kR.cell 2 rfl
  have x2 := kR.fz 2
  have y3 := kR.cell 3 rfl
  have x3 := kR.fz 3
  have y4 := kR.cell 4 rfl
  have x4 := kR.fz 4
  go_wp2
  refine bodyPost_ret (v := .tuple #[.agg #[.slice none 0 0, .slice none 0 0, .slice none 0 0, .slice none 0 0, .slice none 0 0], .bool false]) (by simp [results, Try.results6, go_sem, y0, y1, y2, y3, y4]) rfl ⟨zeH, by rw [HN.out]; rfl, by rw [HN.out]; exact (zeX _).rd, ?_⟩
  exact ((((B0.setCell (Nat.le_add_right _ _) _).setCell (Nat.le_add_right _ _) _).setCell (Nat.le_add_right _ _) _).setCell (Nat.le_add_right _ _) _).setCell (Nat.le_add_right _ _) _
 have hpos : 0 < p.threads.length := by
  unfold zq at hv
  simp only [Bool.and_eq_true, decide_eq_true_eq] at hv
  omega
 have HN : Hid (zaM p = some (p.thr (p.threads.map hush))) := xH1 (by unfold zaM zbm; rw [if_pos ⟨hv, by omega, by omega⟩]; rfl)
 have HV := xH1 hv
 clear hv
 go_enter Try.func6, Try.ntmps6
 go_wp2_with fail
 rw [← HW0.out]
 refine (za2 v p _ (hr.below B0) HZ.out).mono ?_
 rintro e w1 ⟨rfl, hb⟩
 rw [HV.out]
 have kR' := kR.below hb
 clear kR
 have kR := kR'
 clear kR'
 replace q0 := zd hb q0
 replace q1 := zd hb q1
 replace q2 := zd hb q2
 replace q3 := zd hb q3
 replace q4 := zd hb q4
 replace B0 := B0.trans (hb.mono B0.size)
 clear hb
 go_wp2_with fail
 refine (zgQ v p _ (hr.below B0) HZ.out).mono ?_
 rintro e w2 ⟨u, us, rfl, ou, hnd, hfr, four, hb⟩
 have hs0 := B0.size
 have hsr := kR.lt
 obtain ⟨T, eT, hT1, hT2⟩ := zaT ou.ot.out (by have h1 := ou.ot.len; simp only [Pg.cells, List.length_map] at h1; have := lt.out; omega)
 have hTf := hfr T (by unfold fpP fpT; rw [eT]; simp [zi])
 obtain ⟨sU, nsU, csU, gU, ngU, cgU, bU, nbU, cbU, rU, nrU, crU, tU, ntU, ctU⟩ := u
 dsimp only at eT ou hfr hnd four ⊢
 subst eT
 have kR' := kR.below hb
 clear kR
 have kR := kR'
 clear kR'
 replace q0 := zd hb q0
 replace q1 := zd hb q1
 replace q2 := zd hb q2
 replace q3 := zd hb q3
 replace q4 := zd hb q4
 replace B0 := B0.trans (hb.mono B0.size)
 have hs2 := kR.lt
 have hs1 := hb.size
 have bq : Below w2.heap.size w2 (w2.alloc (.cells #[.slice sU nsU csU, .slice gU ngU cgU, .slice bU nbU cbU, .slice rU nrU crU, .slice (some ⟨T, 0, none⟩) ntU ctU] 26)) := xA1
 have kQ : Blk (w2.alloc (.cells #[.slice sU nsU csU, .slice gU ngU cgU, .slice bU nbU cbU, .slice rU nrU crU, .slice (some ⟨T, 0, none⟩) ntU ctU] 26)) w2.heap.size #[.slice sU nsU csU, .slice gU ngU cgU, .slice bU nbU cbU, .slice rU nrU crU, .slice (some ⟨T, 0, none⟩) ntU ctU] 26 := Blk.new _ _ _
 have hO := ou.below bq
 have kR' := kR.below bq
 clear kR
 have kR := kR'
 clear kR'
 replace q0 := zd bq q0
 replace q1 := zd bq q1
 replace q2 := zd bq q2
 replace q3 := zd bq q3
 replace q4 := zd bq q4
 replace B0 := B0.trans (bq.mono B0.size)
 clear bq ou hb
 go_wp2
 have hs1A : w1.heap.size ≤ (w2.alloc (.cells #[.slice sU nsU csU, .slice gU ngU cgU, .slice bU nbU cbU, .slice rU nrU crU, .slice (some ⟨T, 0, none⟩) ntU ctU] 26)).heap.size := by have := hs1; simp; omega
 have hTB : T < (w2.alloc (.cells #[.slice sU nsU csU, .slice gU ngU cgU, .slice bU nbU cbU, .slice rU nrU crU, .slice (some ⟨T, 0, none⟩) ntU ctU] 26)).heap.size := by simp; omega
 generalize (w2.alloc (.cells #[.slice sU nsU csU, .slice gU ngU cgU, .slice bU nbU cbU, .slice rU nrU crU, .slice (some ⟨T, 0, none⟩) ntU ctU] 26)) = WA at *
 generalize w2.heap.size = BQ at *
 have hnt : p.threads.length = ntU := by have := hO.ot.len; simpa [Pg.cells] using this
 have hntU : ntU ≤ 1048576 := by have := lt.out; omega
 have HNT := xH1 hnt
 have HO := xH1 hO
 have HF := xH1 hfr
 have HKQ := xH1 kQ
 have HKR := xH1 kR
 have HB0 := xH1 B0
 have hRQ : w.heap.size + 1 ≠ BQ := by omega
 have hRT : w.heap.size + 1 ≠ T := by omega
 have hQT : BQ ≠ T := fun e => zac kQ hO.ot.out zai.2.2.2.1 (by rw [e]; rfl)
 clear hnt hO kQ kR B0 hfr hnd four q0 q1 q2 q3 q4
 go_loopw [5] (fun vk wr => ∃ (k : Nat) (us' : List Value), vk = .int .i64 k ∧ k ≤ ntU ∧ Hid (OwnP wr (PV.mk sU nsU csU gU ngU cgU bU nbU cbU rU nrU crU (some ⟨T, 0, none⟩) ntU ctU) us' (p.thr (za0 p.threads k)).cells) ∧ Hid (∀ q ∈ fpP (PV.mk sU nsU csU gU ngU cgU bU nbU cbU rU nrU crU (some ⟨T, 0, none⟩) ntU ctU) us', w1.heap.size ≤ q) ∧ Hid (Blk wr BQ #[.slice sU nsU csU, .slice gU ngU cgU, .slice bU nbU cbU, .slice rU nrU crU, .slice (some ⟨T, 0, none⟩) ntU ctU] 26) ∧ Hid (Blk wr (w.heap.size + 1) #[.slice none 0 0, .slice none 0 0, .slice none 0 0, .slice none 0 0, .slice none 0 0] 26) ∧ Hid (Below w.heap.size w wr) ∧ Hid (w1.heap.size ≤ wr.heap.size)) (fun vk _ => ntU - (intOf vk).toNat)
 case atStart =>
  refine ⟨0, us, rfl, by omega, ?_, HF, HKQ, HKR, HB0, xH1 hs1A⟩
  rw [zgg]; exact HO
 case round =>
  obtain ⟨k, us', rfl, hk, HOr, HFr, HKr, HRr, HBr, HSr⟩ := hrel
  obtain ⟨wo, hwo⟩ : ∃ wo : World, wo = wr := ⟨_, rfl⟩
  subst hwo
  by_cases hlt : k < ntU
  ·obtain ⟨xa, xc, exa, hrow⟩ := HOr.out.row (i := k) hlt
   have erow : (p.thr (za0 p.threads k)).threads.getD k [] = p.threads.getD k [] := zgX _ _ (by rw [HNT.out]; omega)
   rw [erow] at exa hrow
   have hml : (p.threads.getD k []).length ≤ 1048576 := Z6.out k
   obtain ⟨ops, hops⟩ : ∃ ops, ops = p.threads.getD k [] := ⟨_, rfl⟩
   rw [← hops] at exa hrow hml
   obtain ⟨m, hm⟩ : ∃ m, m = ops.length := ⟨_, rfl⟩
   rw [← hm] at exa hrow hml
   have hot := HOr.out.ot.out
   have hvl := HOr.out.ot.vlen
   dsimp only at hot hvl
   have e4 := HKr.out.cell 4 rfl
   have ga : wo.cell? ⟨T, k, none⟩ = some (.slice xa m xc) := by rw [hot.cellAt k (by omega), ← exa]; simp [List.getD, hvl, hlt]
   have i0 : (0 : Int) ≤ (k : Int) := by omega
   have i1 : (k : Int) < (ntU : Int) := by omega
   have HRD := xH1 (Rd.of_owns hrow)
   have HOT := xH1 hot
   have HM := xH1 hm
   have HOPS := xH1 hops
   have HE4 := xH1 e4
   have HGA := xH1 ga
   have HVL := xH1 hvl
   clear exa hrow hvl hot hm erow hops
   go_wp2
   go_loopw [6, 7] (fun vo vj wr => ∃ (j n : Nat) (ao : Option Addr) (co : Nat), j ≤ m ∧ n ≤ j ∧ vj = .int .i64 j ∧ vo = .slice ao n co ∧ wr.ownsRow wo.heap.size 44 3 (.slice ao n co) n (opsV (hush (ops.take j))) ∧ Hid (Below wo.heap.size wo wr)) (fun _ vj _ => m - (intOf vj).toNat)
   case atStart => exact ⟨0, 0, _, _, by omega, by omega, rfl, rfl, zaW _ _ _, xH1 (xA1)⟩
   case round =>
    obtain ⟨j, n, ao, co, hj, hn, rfl, rfl, hown, HBi⟩ := hrel
    replace e4 := zd HBi.out HE4.out
    replace ga := zd HBi.out HGA.out
    have hS := HBi.out.size
    by_cases hlj : j < m
    ·obtain ⟨b2, o2, rfl, g'⟩ := (HRD.out.below HBi.out).op (by have := HM.out; omega)
     obtain ⟨g0, g1, g2⟩ := g' j (by have := HM.out; omega)
     obtain ⟨x, hx⟩ : ∃ x, x = ops.getD j noOp := ⟨_, rfl⟩
     rw [← hx] at g0 g1 g2
     have HX := xH1 hx
     have hts := zg5 ops j (by have := HM.out; omega)
     rw [← hx] at hts
     have HTS := xH1 hts
     have j0 : (0 : Int) ≤ (j : Int) := by omega
     have j1 : (j : Int) < (m : Int) := by omega
     clear g' hx hts
     by_cases h1 : x.kind = 1
     ·have t0 : (x.kind != 1) = false := by simpa using h1
      have HQ : Hid (hush (ops.take (j + 1)) = hush (ops.take j)) := xH1 (by rw [HTS.out, if_pos (by unfold zdQ; rw [h1]; rfl), List.append_nil])
      clear h1
      go_wp2
      go_roundw
      case rel => exact ⟨j + 1, n, ao, co, by omega, by omega, by go_num, rfl, by rw [HQ.out]; exact hown, HBi⟩
      case measure => simp [intOf]; omega
     ·have t0 : (x.kind != 1) = true := by simpa using h1
      have HQ : Hid (hush (ops.take (j + 1)) = hush (ops.take j) ++ [x]) := xH1 (by rw [HTS.out, if_neg (by unfold zdQ; rw [decide_eq_false h1]; simp)])
      have HOWN := xH1 hown
      clear h1
      go_wp2_with (at_builtin; refine zaw (news := opv x) rfl _ _ 42 rfl Try.underlying42 zeh rfl (by decide) rfl hown rfl (by rw [zcx]) rfl (by intro u hu; simp only [opv, List.mem_cons, List.not_mem_nil, or_false] at hu; rcases hu with rfl | rfl | rfl <;> rfl) (by omega) (by decide) hS ?_; intro a3 c3 w3 hown3 hgr3; clear hown)
      go_roundw
      case rel =>
       refine ⟨j + 1, n + 1, a3, c3, by omega, by omega, by go_num, rfl, ?_, xH1 (HBi.out.trans (z8 hgr3 hS (fun q hq => ?_)))⟩
       ·rw [HQ.out]; simpa [opsV] using hown3
       ·exact (zG HOWN.out q hq).1
      case measure => simp [intOf]; omega
    ·have hjm : j = m := by omega
     subst hjm
     have hot := zj HOT.out HBi.out
     have hvl := HVL.out
     have gT : wr.cell? ⟨T, k, none⟩ = some (us'.getD k undef) := (by rw [hot.cellAt k (by omega), List.getD_eq_getElem?_getD, List.getElem?_eq_getElem (by omega)]; rfl)
     have fT := hot.frozenAt k
     have kQ := HKr.out.below HBi.out
     have kR := HRr.out.below HBi.out
     have HN2 : Hid (hush (ops.take j) = hush ops) := xH1 (by rw [List.take_of_length_le (by have := HM.out; omega)])
     rw [HN2.out] at hown
     have HOW := xH1 hown
     clear hot hvl hown
     go_wp2
     go_roundw
     case rel =>
      have hfin := zjb HOr.out rfl hlt HBi.out (zu HOW.out (Nat.zero_le _))
      have e2 : (p.thr (za0 p.threads k)).thr ((p.thr (za0 p.threads k)).threads.set k (hush ops)) = p.thr (za0 p.threads (k + 1)) := by
       have h := zf4 p.threads k (by rw [HNT.out]; omega)
       rw [← HOPS.out] at h
       show p.thr ((za0 p.threads k).set k (hush ops)) = _
       rw [h]
      rw [e2] at hfin
      have hsw := HSr.out
      refine ⟨k + 1, us'.set k (.slice ao n co), by go_num, by omega, xH1 hfin, xH1 ?_, xH1 (kQ.other ⟨T, k, none⟩ _ hQT), xH1 (kR.other ⟨T, k, none⟩ _ hRT), xH1 ((HBr.out.trans (HBi.out.mono HBr.out.size)).setCell (show w.heap.size ≤ (⟨T, k, none⟩ : Addr).block from (by omega : w.heap.size ≤ T)) _), xH1 (by simp; omega)⟩
      exact zkq HFr.out (fun q hq => by simp [zi] at hq; omega) (fun y hy q hq => by
       rcases List.mem_or_eq_of_mem_set hy with hy | rfl
       ·exact HFr.out q (ziY hy hq)
       ·rw [zP] at hq
        have := (zG HOW.out q hq).1; omega)
     case measure => simp [intOf]; omega
  ·obtain rfl : ntU = k := by omega
   have kR := HRr.out
   have kQ := HKr.out
   have y0 := kR.cell 0 rfl
   have x0 := kR.fz 0
   have y1 := kR.cell 1 rfl
   have x1 := kR.fz 1
   have y2 := kR.cell 2 rfl
   have x2 := kR.fz 2
   have y3 := kR.cell 3 rfl
   have x3 := kR.fz 3
   have y4 := kR.cell 4 rfl
   have x4 := kR.fz 4
   have g0 := kQ.cell 0 rfl
   have g1 := kQ.cell 1 rfl
   have g2 := kQ.cell 2 rfl
   have g3 := kQ.cell 3 rfl
   have g4 := kQ.cell 4 rfl
   go_wp2
   refine bodyPost_ret (v := .tuple #[.agg #[.slice sU nsU csU, .slice gU ngU cgU, .slice bU nbU cbU, .slice rU nrU crU, .slice (some ⟨T, 0, none⟩) ntU ctU], .bool true]) (by simp [results, Try.results6, go_sem, y0, y1, y2, y3, y4]) rfl ⟨(PV.mk sU nsU csU gU ngU cgU bU nbU cbU rU nrU crU (some ⟨T, 0, none⟩) ntU ctU), by rw [HN.out]; rfl, ?_, ?_⟩
   ·rw [HN.out]
    simp only [Option.getD_some]
    have h := HOr.out
    have e3 : za0 p.threads ntU = p.threads.map hush := by rw [← HNT.out]; exact zgV _
    rw [e3] at h
    refine zjy (R := w.heap.size + 1) h ?_ hsr HFr.out
    exact zm.set (zm.set (zm.set (zm.set (zm.set (zm.refl _ _) (by simp)) (by simp)) (by simp)) (by simp)) (by simp)
   ·have BE := HBr.out
    exact ((((BE.setCell (Nat.le_add_right _ _) _).setCell (Nat.le_add_right _ _) _).setCell (Nat.le_add_right _ _) _).setCell (Nat.le_add_right _ _) _).setCell (Nat.le_add_right _ _) _
end Go.Proofs.Ytppoohbkkdgljaa
