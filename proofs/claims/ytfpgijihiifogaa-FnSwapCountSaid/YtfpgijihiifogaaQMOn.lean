/- Part of a proof: MOn. -/
import Derived.Test.YtfpgijihiifogaaQMFits
set_option maxRecDepth 100000
set_option maxHeartbeats 16000000
namespace Go.Proofs.Ytfpgijihiifogaa
open Go.RowKit Go.Sort
theorem specRest7_ok (u : PV) (p : Pg) (t x : Int) (w : World) (hp : RdP w u p) (ht : 0 ≤ t ∧ t < p.threads.length) (hz : Small u p) :
  Calls Try.prog 31 #[.agg #[.slice u.s u.ns u.cs, .slice u.g u.ng u.cg, .slice u.b u.nb u.cb, .slice u.r u.nr u.cr, .slice u.t u.nt u.ct], .int .i64 t, .int .i64 x] w fun e w' => e = .returned (.int .i64 (rest p t x)) ∧ Below w.heap.size w w' := by
 obtain ⟨bt, ot, et, hth⟩ := hp.thr (by omega)
 obtain ⟨a2, x2, ct, -⟩ := hth t.toNat (by omega)
 obtain ⟨m, em⟩ : ∃ m, m = (p.threads.getD t.toNat []).length := ⟨_, rfl⟩
 rw [← em] at ct
 have hm := hz.inn t.toNat
 rw [← em] at hm
 have hn := hz.lt
 have t0 := ht.1
 have t1 : t < (u.nt : Int) := by rw [← hp.lt]; exact ht.2
 have HM : Hid (rest p t x = if x = (m : Int) then 3 else 0) := xH1 (by unfold rest opsOf; rw [em])
 clear hth hz ht em hp
 obtain ⟨W0, hW0⟩ : ∃ W0 : World, W0 = (w.alloc (.cells #[.slice u.s u.ns u.cs, .slice u.g u.ng u.cg, .slice u.b u.nb u.cb, .slice u.r u.nr u.cr, .slice u.t u.nt u.ct] 31)) := ⟨_, rfl⟩
 have B0 : Below w.heap.size w W0 := by
  rw [hW0]
  exact (xB1.alloc (by simp) _)
 have kP : Blk W0 (w.heap.size) #[.slice u.s u.ns u.cs, .slice u.g u.ng u.cg, .slice u.b u.nb u.cb, .slice u.r u.nr u.cr, .slice u.t u.nt u.ct] 31 := by
  rw [hW0]
  have h := Blk.new w #[.slice u.s u.ns u.cs, .slice u.g u.ng u.cg, .slice u.b u.nb u.cb, .slice u.r u.nr u.cr, .slice u.t u.nt u.ct] 31
  exact h
 have hS0 : W0.heap.size = w.heap.size + 1 := by rw [hW0]; simp
 have p4 := kP.cell 4 rfl
 rw [et] at p4
 replace ct := keepc B0 ct
 have HB := xH1 B0
 clear kP B0 et
 rw [HM.out]
 by_cases hx : x = (m : Int)
 ·rw [if_pos hx]
  have h0 : (x == (m : Int)) = true := by simpa using hx
  clear hx
  go_enter Try.func31, Try.ntmps31
  go_upto_region 1 with fail
  rw [← hW0]
  clear hW0
  go_wp2
  go_ret
  exact ⟨rfl, HB.out⟩
 ·rw [if_neg hx]
  have h0 : (x == (m : Int)) = false := by simpa using hx
  clear hx
  go_enter Try.func31, Try.ntmps31
  go_upto_region 1 with fail
  rw [← hW0]
  clear hW0
  go_wp2
  go_ret
  exact ⟨rfl, HB.out⟩
theorem Touch.extra {S S' : List Nat} {w a b : World} (h : Touch S w a) (k : Touch S' a b) (hs : ∀ q ∈ S', w.heap.size ≤ q) : Touch S w b :=
 ⟨k.os.trans h.os, k.tape.trans h.tape, k.output.trans h.output, Nat.le_trans h.size k.size, fun q hq hn => (k.block q (Nat.lt_of_lt_of_le hq h.size) (fun hm => by have := hs q hm; omega)).trans (h.block q hq hn)⟩
theorem specOn7_ok (X : List Nat) (B : Nat) (u : PV) (p : Pg) (v : StV) (L : StL) (s : StD) (a : Option Addr) (n c : Nat) (l : List Int) (w0 w : World) (hp : RdP w0 u p) (h0 : w0.heap.size ≤ B) (hb0 : Below w0.heap.size w0 w) (hz : Small u p) (hB : B ≤ w.heap.size)
  (hs : StO X B w v L s) (hw : SlR v.blks w ⟨a, n, c⟩ (ints l) l.length) (hl : l.length ≤ 9) (hn : 0 < s.places.length ∧ s.places.length ≤ 8 ∧ s.places.length = s.status.length) (ht : ∀ t ∈ l, 0 ≤ t ∧ t < p.threads.length ∧ t < s.places.length) (hpl : ∀ i, 0 ≤ s.places.getD i 0 ∧ s.places.getD i 0 ≤ 8) :
  Calls Try.prog 55 #[.agg #[.slice u.s u.ns u.cs, .slice u.g u.ng u.cg, .slice u.b u.nb u.cb, .slice u.r u.nr u.cr, .slice u.t u.nt u.ct], .agg #[.slice v.pl.a v.pl.n v.pl.c, .slice v.st.a v.st.n v.st.c, .slice v.se.a v.se.n v.se.c, .slice v.on.a v.on.n v.on.c, .slice v.gr.a v.gr.n v.gr.c, .slice v.ba.a v.ba.n v.ba.c, .slice v.ch.a v.ch.n v.ch.c, .slice v.sa.a v.sa.n v.sa.c, .int .i64 v.fl], .slice a n c] w fun e w' => e = .returned v.val ∧ StO X B w' v L (goAll p s l) ∧ Below B w w' ∧ Touch v.blks w w' := by
 have hln := hw.len
 dsimp only at hln
 have HWH := xH1 hw
 have HS := xH1 hs
 have HP := xH1 hp
 have HZ := xH1 hz
 have HT := xH1 ht
 have HPL := xH1 hpl
 have HLN := xH1 hln
 have NPL := xH1 hs.npl
 have NST := xH1 hs.nst
 have npl : v.pl.n = v.st.n := by rw [hs.npl, hs.nst]; exact hn.2.2
 have z1 : 0 < v.pl.n := by rw [hs.npl]; exact hn.1
 have z2 : v.pl.n ≤ 8 := by rw [hs.npl]; exact hn.2.1
 obtain ⟨gp, ep, hgp, -⟩ := owns_at hs.pl z1
 obtain ⟨gs, es, hgs, -⟩ := owns_at hs.st (by omega)
 have n8 : n ≤ 9 := by omega
 have HFR := xH1 hs.from
 have NB : Hid (w.heap.size ∉ v.blks ∧ w.heap.size + 1 ∉ v.blks ∧ w.heap.size + 1 + 1 ∉ v.blks) := xH1 ⟨fun h => by have := (hs.from _ h).2; omega, fun h => by have := (hs.from _ h).2; omega, fun h => by have := (hs.from _ h).2; omega⟩
 have GP : Hid (gp ∈ v.blks) := xH1 (StV.mem_pl (by rw [ep]; rfl))
 have GS : Hid (gs ∈ v.blks) := xH1 (StV.mem_st (by rw [es]; rfl))
 have NEQ := xH1 npl
 clear hp hz hs hw ht hpl hn hln hl npl
 obtain ⟨W0, hW0⟩ : ∃ W0 : World, W0 = (((w.alloc (.cells #[.slice u.s u.ns u.cs, .slice u.g u.ng u.cg, .slice u.b u.nb u.cb, .slice u.r u.nr u.cr, .slice u.t u.nt u.ct] 31)).alloc (.cells #[.slice v.pl.a v.pl.n v.pl.c, .slice v.st.a v.st.n v.st.c, .slice v.se.a v.se.n v.se.c, .slice v.on.a v.on.n v.on.c, .slice v.gr.a v.gr.n v.gr.c, .slice v.ba.a v.ba.n v.ba.c, .slice v.ch.a v.ch.n v.ch.c, .slice v.sa.a v.sa.n v.sa.c, .int .i64 v.fl] 44)).alloc (.cells #[.slice none 0 0, .slice none 0 0, .slice none 0 0, .slice none 0 0, .slice none 0 0, .slice none 0 0, .slice none 0 0, .slice none 0 0, .int .i64 0] 44)) := ⟨_, rfl⟩
 have B0 : Below w.heap.size w W0 := by
  rw [hW0]
  exact (((xB1.alloc (by simp) _).alloc (by simp) _).alloc (by simp; omega) _)
 have kP : Blk W0 (w.heap.size) #[.slice u.s u.ns u.cs, .slice u.g u.ng u.cg, .slice u.b u.nb u.cb, .slice u.r u.nr u.cr, .slice u.t u.nt u.ct] 31 := by
  rw [hW0]
  have h := Blk.new w #[.slice u.s u.ns u.cs, .slice u.g u.ng u.cg, .slice u.b u.nb u.cb, .slice u.r u.nr u.cr, .slice u.t u.nt u.ct] 31
  exact h |>.alloc _ |>.alloc _
 have kS : Blk W0 (w.heap.size + 1) #[.slice v.pl.a v.pl.n v.pl.c, .slice v.st.a v.st.n v.st.c, .slice v.se.a v.se.n v.se.c, .slice v.on.a v.on.n v.on.c, .slice v.gr.a v.gr.n v.gr.c, .slice v.ba.a v.ba.n v.ba.c, .slice v.ch.a v.ch.n v.ch.c, .slice v.sa.a v.sa.n v.sa.c, .int .i64 v.fl] 44 := by
  rw [hW0]
  have h := Blk.new (w.alloc (.cells #[.slice u.s u.ns u.cs, .slice u.g u.ng u.cg, .slice u.b u.nb u.cb, .slice u.r u.nr u.cr, .slice u.t u.nt u.ct] 31)) #[.slice v.pl.a v.pl.n v.pl.c, .slice v.st.a v.st.n v.st.c, .slice v.se.a v.se.n v.se.c, .slice v.on.a v.on.n v.on.c, .slice v.gr.a v.gr.n v.gr.c, .slice v.ba.a v.ba.n v.ba.c, .slice v.ch.a v.ch.n v.ch.c, .slice v.sa.a v.sa.n v.sa.c, .int .i64 v.fl] 44
  simp only [World.size_alloc] at h
  exact h |>.alloc _
 have kR : Blk W0 (w.heap.size + 2) #[.slice none 0 0, .slice none 0 0, .slice none 0 0, .slice none 0 0, .slice none 0 0, .slice none 0 0, .slice none 0 0, .slice none 0 0, .int .i64 0] 44 := by
  rw [hW0]
  have h := Blk.new ((w.alloc (.cells #[.slice u.s u.ns u.cs, .slice u.g u.ng u.cg, .slice u.b u.nb u.cb, .slice u.r u.nr u.cr, .slice u.t u.nt u.ct] 31)).alloc (.cells #[.slice v.pl.a v.pl.n v.pl.c, .slice v.st.a v.st.n v.st.c, .slice v.se.a v.se.n v.se.c, .slice v.on.a v.on.n v.on.c, .slice v.gr.a v.gr.n v.gr.c, .slice v.ba.a v.ba.n v.ba.c, .slice v.ch.a v.ch.n v.ch.c, .slice v.sa.a v.sa.n v.sa.c, .int .i64 v.fl] 44)) #[.slice none 0 0, .slice none 0 0, .slice none 0 0, .slice none 0 0, .slice none 0 0, .slice none 0 0, .slice none 0 0, .slice none 0 0, .int .i64 0] 44
  simp only [World.size_alloc, Nat.add_assoc, Nat.reduceAdd] at h
  exact h
 have hS0 : W0.heap.size = w.heap.size + 3 := by rw [hW0]; simp
 have p0 := kP.cell 0 rfl
 have p1 := kP.cell 1 rfl
 have p2 := kP.cell 2 rfl
 have p3 := kP.cell 3 rfl
 have p4 := kP.cell 4 rfl
 have q0 := kS.cell 0 rfl
 have q1 := kS.cell 1 rfl
 have q2 := kS.cell 2 rfl
 have q3 := kS.cell 3 rfl
 have q4 := kS.cell 4 rfl
 have q5 := kS.cell 5 rfl
 have q6 := kS.cell 6 rfl
 have q7 := kS.cell 7 rfl
 have q8 := kS.cell 8 rfl
 rw [ep] at q0
 rw [es] at q1
 have HS0 := xH1 (show StO ((w.heap.size + 1 + 1) :: X) B W0 v L (goAll p s (l.take 0)) from (HS.out.box B0 (k := w.heap.size + 1 + 1) (by omega) (by omega)))
 have HW0 := xH1 ((HWH.out.below B0))
 have kR1 : Blk W0 (w.heap.size + 1 + 1) #[.slice none 0 0, .slice none 0 0, .slice none 0 0, .slice none 0 0, .slice none 0 0, .slice none 0 0, .slice none 0 0, .slice none 0 0, .int .i64 0] 44 := kR
 have HKR := xH1 kR1
 have HB := xH1 (B0.mono hB)
 have HTW := xH1 (Touch.of_below (S := v.blks) B0)
 have hbW : Below w0.heap.size w0 W0 := hb0.trans (B0.mono hb0.size)
 have HBW := xH1 hbW
 have EP := xH1 ep
 have ES0 := xH1 es
 clear HS HWH B0 kS kP kR kR1 hbW hb0 ep es
 go_enter Try.func55, Try.ntmps55
 go_upto_region 1 with fail
 rw [← hW0]
 clear hW0
 go_wp2
 go_loopw [7] (fun i wr => ∃ k : Nat, k ≤ n ∧ i = .int .i64 k ∧ Hid (StO ((w.heap.size + 1 + 1) :: X) B wr v L (goAll p s (l.take k))) ∧ Touch v.blks W0 wr) (fun i _ => n - (intOf i).toNat)
 case atStart => exact ⟨0, by omega, rfl, HS0, Touch.refl _ _⟩
 case round =>
  obtain ⟨k, hk, rfl, HC, hT0⟩ := hrel
  have cp0 := cell_touch hT0 p0 NB.out.1
  have cp1 := cell_touch hT0 p1 NB.out.1
  have cp2 := cell_touch hT0 p2 NB.out.1
  have cp3 := cell_touch hT0 p3 NB.out.1
  have cp4 := cell_touch hT0 p4 NB.out.1
  have cq0 := cell_touch hT0 q0 NB.out.2.1
  have cq1 := cell_touch hT0 q1 NB.out.2.1
  have cq2 := cell_touch hT0 q2 NB.out.2.1
  have cq3 := cell_touch hT0 q3 NB.out.2.1
  have cq4 := cell_touch hT0 q4 NB.out.2.1
  have cq5 := cell_touch hT0 q5 NB.out.2.1
  have cq6 := cell_touch hT0 q6 NB.out.2.1
  have cq7 := cell_touch hT0 q7 NB.out.2.1
  have cq8 := cell_touch hT0 q8 NB.out.2.1
  have hBr : Below B W0 wr := hT0.below (by have := HB.out.size; omega) (fun b hb => (HFR.out b hb).1)
  by_cases hlt : k < n
  ·obtain ⟨bw, ow, ea, g'⟩ := ((HW0.out.touch hT0 (fun _ h => h)).rd).int (by have := HLN.out; omega)
   dsimp only at ea
   have g := g' k (by have := HLN.out; omega)
   obtain ⟨t, et⟩ : ∃ t, t = l.getD k 0 := ⟨_, rfl⟩
   rw [← et] at g
   have hmt : t ∈ l := by rw [et, List.getD_eq_getElem?_getD, List.getElem?_eq_getElem (by have := HLN.out; omega)]; exact List.getElem_mem _
   obtain ⟨t0, t1, t2⟩ := HT.out t hmt
   obtain ⟨s', es'⟩ : ∃ s', s' = goAll p s (l.take k) := ⟨_, rfl⟩
   rw [← es'] at HC
   have hnp : s'.places.length = v.pl.n := by rw [es', goAll_np, NPL.out]
   have hns : s'.status.length = v.st.n := by rw [es', goAll_nst, NST.out]
   have hbd := goAll_bound (p := p) (l.take k) s t.toNat
   rw [← es', List.length_take] at hbd
   have hb1 := HPL.out t.toNat
   obtain ⟨x, ex⟩ : ∃ x, x = s'.places.getD t.toNat 0 := ⟨_, rfl⟩
   rw [← ex] at hbd
   have hx : 0 ≤ x ∧ x ≤ 16 := by omega
   have hwr : IntKind.i64.wrap (x + 1) = x + 1 := Go.IntWalk.i64_in _ (by omega)
   have t3 : t < (v.pl.n : Int) := by rw [NPL.out]; exact t2
   have t4 : t < (v.st.n : Int) := by have := NEQ.out; omega
   have own := HC.out.pl
   rw [show v.pl.val = .slice (some ⟨gp, 0, none⟩) v.pl.n v.pl.c by rw [← EP.out]] at own
   have cx := own.cellAt t.toNat (by omega)
   replace cx : wr.cell? ⟨gp, t.toNat, none⟩ = some (.int .i64 x) := by
    rw [cx, ex]
    simp [ints, List.getD, show t.toNat < s'.places.length by omega]
   have hfz := own.frozenAt t.toNat
   have R := owns_store own t.toNat (.int .i64 (x + 1)) (cs' := ints (s'.places.set t.toNat (x + 1))) (by simp [ints, List.map_set])
   have HC4 := HC.out.set_pl (g := gp) (by rw [EP.out]; rfl) ((Touch.refl [gp] wr).set (v := .int .i64 (x + 1)) (b := gp) (j := t.toNat) (by simp)) (ps := s'.places.set t.toNat (x + 1)) (by rw [List.length_set]; omega) (by have := R.1; rw [show v.pl.val = .slice (some ⟨gp, 0, none⟩) v.pl.n v.pl.c by rw [← EP.out]]; exact this)
   have bD : Below (wr.setCell ⟨gp, t.toNat, none⟩ (.int .i64 (x + 1))).heap.size (wr.setCell ⟨gp, t.toNat, none⟩ (.int .i64 (x + 1))) (wr.setCell ⟨gp, t.toNat, none⟩ (.int .i64 (x + 1))).drew := xB1.drew
   have HC5 := HC4.below bD
   have hT5 : Touch v.blks wr (wr.setCell ⟨gp, t.toNat, none⟩ (.int .i64 (x + 1))).drew := ((Touch.refl v.blks wr).set GP.out).trans (Touch.of_below bD)
   have cx5 : (wr.setCell ⟨gp, t.toNat, none⟩ (.int .i64 (x + 1))).drew.cell? ⟨gp, t.toNat, none⟩ = some (.int .i64 (x + 1)) := by
    refine keepc bD ?_
    have := R.1.cellAt t.toNat (by omega)
    rw [this]
    simp [ints, show t.toNat < s'.places.length by omega]
   have HR5 := xH1 HC5
   have HT5 := xH1 hT5
   have HCX := xH1 cx5
   have ET := xH1 et
   have ES := xH1 es'
   have EX := xH1 ex
   have HNP := xH1 hnp
   have HNS := xH1 hns
   have i0 : (0 : Int) ≤ (k : Int) := by omega
   have i1 : (k : Int) < (n : Int) := by omega
   have TP : Hid (0 ≤ t ∧ t < p.threads.length) := xH1 ⟨t0, t1⟩
   subst ea
   clear g' et hmt t1 t2 hbd hb1 ex own R HC4 bD HC5 hT5 cx5 es' hnp hns
   go_wp2
   go_still_tail 9, (by kernel_rfl)
   go_wp2
   obtain ⟨WB, hWB⟩ : ∃ WB : World, WB = (wr.setCell ⟨gp, t.toNat, none⟩ (.int .i64 (x + 1))).drew := ⟨_, rfl⟩
   rw [← hWB] at HR5 HT5 HCX ⊢
   have hT6 := hT0.trans HT5.out
   have cx6 := HCX.out
   replace cp0 := cell_touch HT5.out cp0 NB.out.1
   replace cp1 := cell_touch HT5.out cp1 NB.out.1
   replace cp2 := cell_touch HT5.out cp2 NB.out.1
   replace cp3 := cell_touch HT5.out cp3 NB.out.1
   replace cp4 := cell_touch HT5.out cp4 NB.out.1
   replace cq0 := cell_touch HT5.out cq0 NB.out.2.1
   replace cq1 := cell_touch HT5.out cq1 NB.out.2.1
   replace cq2 := cell_touch HT5.out cq2 NB.out.2.1
   replace cq3 := cell_touch HT5.out cq3 NB.out.2.1
   replace cq4 := cell_touch HT5.out cq4 NB.out.2.1
   replace cq5 := cell_touch HT5.out cq5 NB.out.2.1
   replace cq6 := cell_touch HT5.out cq6 NB.out.2.1
   replace cq7 := cell_touch HT5.out cq7 NB.out.2.1
   replace cq8 := cell_touch HT5.out cq8 NB.out.2.1
   have hBB : Below w0.heap.size w0 WB := HBW.out.trans ((hT6.below (B := B) (by have := HB.out.size; omega) (fun b hb => (HFR.out b hb).1)).mono h0)
   have HPB := xH1 (HP.out.below hBB)
   clear cx hfz hwr hWB hBB g
   refine wp_region_fresh 11 (by kernel_rfl) (by kernel_rfl) [fun dz uz wz => uz = .pointer (some ⟨w.heap.size + 1, 1, none⟩), fun dz uz wz => uz = .slice (some ⟨gs, 0, none⟩) v.st.n v.st.c, fun dz uz wz => uz = .int .i64 t, fun dz uz wz => uz = .agg #[.slice u.s u.ns u.cs, .slice u.g u.ng u.cg, .slice u.b u.nb u.cb, .slice u.r u.nr u.cr, .slice u.t u.nt u.ct], fun dz uz wz => uz = .int .i64 t, fun dz uz wz => uz = .pointer (some ⟨w.heap.size + 1, 0, none⟩), fun dz uz wz => uz = .slice (some ⟨gp, 0, none⟩) v.pl.n v.pl.c, fun dz uz wz => uz = .int .i64 t, fun dz uz wz => uz = .pointer (some ⟨gp, t.toNat, none⟩), fun dz uz wz => uz = .int .i64 (x + 1), fun dz uz wz => uz = .int .i64 (rest p t (x + 1))] (fun i => match i with | _ => fun _ => none) (fun w' => Below WB.heap.size WB w') xB1.drew (stab_of ⟨fun _ _ _ _ _ h => h, fun _ _ _ _ _ h => h, fun _ _ _ _ _ h => h, fun _ _ _ _ _ h => h, fun _ _ _ _ _ h => h, fun _ _ _ _ _ h => h, fun _ _ _ _ _ h => h, fun _ _ _ _ _ h => h, fun _ _ _ _ _ h => h, fun _ _ _ _ _ h => h, fun _ _ _ _ _ h => h, trivial⟩) ?_ ?_
   ·simp only [List.take_succ_cons, List.take_zero]
    refine ⟨?_, ?_, ?_, ?_, ?_, ?_, ?_, ?_, ?_, ?_, ?_, trivial⟩
    ·intro ρ w1 hG hfr hd
     obtain ⟨fc, ff⟩ := xF1 hfr
     have f4 : ρ (.tmp 4) = .pointer (some ⟨w.heap.size + 1, 0, none⟩) := hfr _ rfl
     refine gives_val (u := .pointer (some ⟨w.heap.size + 1, 1, none⟩)) (w' := w1) (by go_simp) ⟨Below.refl _ _, rfl, xN1, hG⟩
    ·intro ρ w1 hG hfr hd
     obtain ⟨fc, ff⟩ := xF1 hfr
     obtain ⟨d0, -⟩ := hd
     have d0 : (ρ (.tmp 29)) = .pointer (some ⟨w.heap.size + 1, 1, none⟩) := d0
     have cq1 := keepc hG cq1
     refine gives_val (u := .slice (some ⟨gs, 0, none⟩) v.st.n v.st.c) (w' := w1) (by go_simp) ⟨Below.refl _ _, rfl, xN1, hG⟩
    ·intro ρ w1 hG hfr hd
     obtain ⟨fc, ff⟩ := xF1 hfr
     have f8 : ρ (.tmp 8) = .int .i64 t := hfr _ rfl
     refine gives_val (u := .int .i64 t) (w' := w1) (by go_simp) ⟨Below.refl _ _, rfl, xN1, hG⟩
    ·intro ρ w1 hG hfr hd
     obtain ⟨fc, ff⟩ := xF1 hfr
     have f3 : ρ (.tmp 3) = .pointer (some ⟨w.heap.size, 0, none⟩) := hfr _ rfl
     have cp0 := keepc hG cp0
     have cp1 := keepc hG cp1
     have cp2 := keepc hG cp2
     have cp3 := keepc hG cp3
     have cp4 := keepc hG cp4
     refine gives_val (u := .agg #[.slice u.s u.ns u.cs, .slice u.g u.ng u.cg, .slice u.b u.nb u.cb, .slice u.r u.nr u.cr, .slice u.t u.nt u.ct]) (w' := w1) (by go_simp) ⟨Below.refl _ _, rfl, xN1, hG⟩
    ·intro ρ w1 hG hfr hd
     obtain ⟨fc, ff⟩ := xF1 hfr
     have f8 : ρ (.tmp 8) = .int .i64 t := hfr _ rfl
     refine gives_val (u := .int .i64 t) (w' := w1) (by go_simp) ⟨Below.refl _ _, rfl, xN1, hG⟩
    ·intro ρ w1 hG hfr hd
     obtain ⟨fc, ff⟩ := xF1 hfr
     have f4 : ρ (.tmp 4) = .pointer (some ⟨w.heap.size + 1, 0, none⟩) := hfr _ rfl
     refine gives_val (u := .pointer (some ⟨w.heap.size + 1, 0, none⟩)) (w' := w1) (by go_simp) ⟨Below.refl _ _, rfl, xN1, hG⟩
    ·intro ρ w1 hG hfr hd
     obtain ⟨fc, ff⟩ := xF1 hfr
     obtain ⟨d0, -⟩ := hd
     have d0 : (ρ (.tmp 34)) = .pointer (some ⟨w.heap.size + 1, 0, none⟩) := d0
     have cq0 := keepc hG cq0
     refine gives_val (u := .slice (some ⟨gp, 0, none⟩) v.pl.n v.pl.c) (w' := w1) (by go_simp) ⟨Below.refl _ _, rfl, xN1, hG⟩
    ·intro ρ w1 hG hfr hd
     obtain ⟨fc, ff⟩ := xF1 hfr
     have f8 : ρ (.tmp 8) = .int .i64 t := hfr _ rfl
     refine gives_val (u := .int .i64 t) (w' := w1) (by go_simp) ⟨Below.refl _ _, rfl, xN1, hG⟩
    ·intro ρ w1 hG hfr hd
     obtain ⟨fc, ff⟩ := xF1 hfr
     obtain ⟨d0, d1, -⟩ := hd
     have d0 : (ρ (.tmp 35)) = .slice (some ⟨gp, 0, none⟩) v.pl.n v.pl.c := d0
     have d1 : (ρ (.tmp 36)) = .int .i64 t := d1
     refine gives_val (u := .pointer (some ⟨gp, t.toNat, none⟩)) (w' := w1) (by go_simp) ⟨Below.refl _ _, rfl, xN1, hG⟩
    ·intro ρ w1 hG hfr hd
     obtain ⟨fc, ff⟩ := xF1 hfr
     obtain ⟨d0, -⟩ := hd
     have d0 : (ρ (.tmp 37)) = .pointer (some ⟨gp, t.toNat, none⟩) := d0
     have cx6 := keepc hG cx6
     refine gives_val (u := .int .i64 (x + 1)) (w' := w1) (by go_simp) ⟨Below.refl _ _, rfl, xN1, hG⟩
    ·intro ρ w1 hG hfr hd
     obtain ⟨fc, ff⟩ := xF1 hfr
     obtain ⟨d0, d1, d2, -⟩ := hd
     have d0 : (ρ (.tmp 32)) = .agg #[.slice u.s u.ns u.cs, .slice u.g u.ng u.cg, .slice u.b u.nb u.cb, .slice u.r u.nr u.cr, .slice u.t u.nt u.ct] := d0
     have d1 : (ρ (.tmp 33)) = .int .i64 t := d1
     have d2 : (ρ (.tmp 38)) = .int .i64 (x + 1) := d2
     refine gives_call (by go_simp; exact ⟨⟨rfl, rfl⟩, rfl⟩) ?_
     refine (specRest7_ok u p t (x + 1) w1 (HPB.out.below hG) TP.out HZ.out).mono ?_
     rintro e w2 ⟨rfl, hb⟩
     exact ⟨_, rfl, hb, rfl, xN1, hG.trans (hb.mono hG.size)⟩
   intro vs w2 hG hlen hall hap hbd
   obtain ⟨xv0, vs0, rfl, hl0⟩ := len_cons hlen
   obtain ⟨xv1, vs1, rfl, hl1⟩ := len_cons hl0
   obtain ⟨xv2, vs2, rfl, hl2⟩ := len_cons hl1
   obtain ⟨xv3, vs3, rfl, hl3⟩ := len_cons hl2
   obtain ⟨xv4, vs4, rfl, hl4⟩ := len_cons hl3
   obtain ⟨xv5, vs5, rfl, hl5⟩ := len_cons hl4
   obtain ⟨xv6, vs6, rfl, hl6⟩ := len_cons hl5
   obtain ⟨xv7, vs7, rfl, hl7⟩ := len_cons hl6
   obtain ⟨xv8, vs8, rfl, hl8⟩ := len_cons hl7
   obtain ⟨xv9, vs9, rfl, hl9⟩ := len_cons hl8
   obtain ⟨xv10, vs10, rfl, hl10⟩ := len_cons hl9
   obtain rfl := len_nil hl10
   clear hlen hl0 hl1 hl2 hl3 hl4 hl5 hl6 hl7 hl8 hl9 hl10
   simp only [List.take_succ_cons, List.take_zero, List.drop_succ_cons, List.drop_zero] at hall ⊢
   obtain ⟨t0', t1', t2', t3', t4', t5', t6', t7', t8', t9', t10', -⟩ := hall
   have hv0 : xv0 = .pointer (some ⟨w.heap.size + 1, 1, none⟩) := t0'
   have hv1 : xv1 = .slice (some ⟨gs, 0, none⟩) v.st.n v.st.c := t1'
   have hv2 : xv2 = .int .i64 t := t2'
   have hv3 : xv3 = .agg #[.slice u.s u.ns u.cs, .slice u.g u.ng u.cg, .slice u.b u.nb u.cb, .slice u.r u.nr u.cr, .slice u.t u.nt u.ct] := t3'
   have hv4 : xv4 = .int .i64 t := t4'
   have hv5 : xv5 = .pointer (some ⟨w.heap.size + 1, 0, none⟩) := t5'
   have hv6 : xv6 = .slice (some ⟨gp, 0, none⟩) v.pl.n v.pl.c := t6'
   have hv7 : xv7 = .int .i64 t := t7'
   have hv8 : xv8 = .pointer (some ⟨gp, t.toNat, none⟩) := t8'
   have hv9 : xv9 = .int .i64 (x + 1) := t9'
   have hv10 : xv10 = .int .i64 (rest p t (x + 1)) := t10'
   clear t0' t1' t2' t3' t4' t5' t6' t7' t8' t9' t10'
   clear hap hbd
   subst hv0 hv1 hv2 hv3 hv4 hv5 hv6 hv7 hv8 hv9 hv10
   simp only [putAll, Act.put, List.setIfInBounds_toArray, List.set_cons_succ, List.set_cons_zero]
   have HC7 := HR5.out.below hG
   have own := HC7.st
   rw [show v.st.val = .slice (some ⟨gs, 0, none⟩) v.st.n v.st.c by rw [← ES0.out]] at own
   have hfz := own.frozenAt t.toNat
   obtain ⟨yo, cyo⟩ : ∃ yo, w2.cell? ⟨gs, t.toNat, none⟩ = some yo := by
    have h := own.cellAt t.toNat (by omega)
    rw [h]
    have : t.toNat < (ints s'.status).length := by rw [List.length_map, HNS.out]; omega
    exact ⟨_, List.getElem?_eq_getElem this⟩
   have R := owns_store own t.toNat (.int .i64 (rest p t (x + 1))) (cs' := ints (s'.status.set t.toNat (rest p t (x + 1)))) (by simp [ints, List.map_set])
   have hTs : Touch [gs] w2 (w2.setCell ⟨gs, t.toNat, none⟩ (.int .i64 (rest p t (x + 1)))) := (Touch.refl [gs] w2).set (by simp)
   have HC8 := HC7.set_st (g := gs) (by rw [ES0.out]; rfl) hTs (ps := s'.status.set t.toNat (rest p t (x + 1))) (by rw [List.length_set, HNS.out]) (by have := R.1; rw [show v.st.val = .slice (some ⟨gs, 0, none⟩) v.st.n v.st.c by rw [← ES0.out]]; exact this)
   have egr : ({ ({ s' with places := s'.places.set t.toNat (x + 1) } : StD) with status := s'.status.set t.toNat (rest p t (x + 1)) } : StD) = goAll p s (l.take (k + 1)) := by
    rw [← take_snoc l 0 (show k < l.length by have := HLN.out; omega), ← ET.out, ← goAll_snoc, ← ES.out]
    unfold goOn
    rw [← EX.out]
   rw [egr] at HC8
   have HC9 := xH1 HC8
   have hT9 : Touch v.blks W0 (w2.setCell ⟨gs, t.toNat, none⟩ (.int .i64 (rest p t (x + 1)))) := (hT6.trans (Touch.of_below hG)).trans ((Touch.refl v.blks w2).set GS.out)
   clear HC7 own R hTs HC8 egr
   go_wp2
   go_roundw
   case rel => exact ⟨k + 1, by omega, by go_num, HC9, hT9⟩
   case measure => simp [intOf]; omega
  ·obtain rfl : k = n := by omega
   have hfin := HC.out
   rw [show l.take k = l by rw [HLN.out]; exact List.take_length] at hfin
   have kR2 := hT0.blk HKR.out NB.out.2.2
   have hRl := HKR.out.lt
   have y0 := kR2.cell 0 rfl
   have yz0 := kR2.fz 0
   have y1 := kR2.cell 1 rfl
   have yz1 := kR2.fz 1
   have y2 := kR2.cell 2 rfl
   have yz2 := kR2.fz 2
   have y3 := kR2.cell 3 rfl
   have yz3 := kR2.fz 3
   have y4 := kR2.cell 4 rfl
   have yz4 := kR2.fz 4
   have y5 := kR2.cell 5 rfl
   have yz5 := kR2.fz 5
   have y6 := kR2.cell 6 rfl
   have yz6 := kR2.fz 6
   have y7 := kR2.cell 7 rfl
   have yz7 := kR2.fz 7
   have y8 := kR2.cell 8 rfl
   have yz8 := kR2.fz 8
   have HFI := xH1 hfin
   clear kR2 hfin HC
   go_wp2
   have hTT := ((((((((((Touch.refl [w.heap.size + 1 + 1] wr).set (v := .slice (some ⟨gp, 0, none⟩) v.pl.n v.pl.c) (b := w.heap.size + 1 + 1) (j := 0) (by simp)).set (v := .slice (some ⟨gs, 0, none⟩) v.st.n v.st.c) (b := w.heap.size + 1 + 1) (j := 1) (by simp)).set (v := .slice v.se.a v.se.n v.se.c) (b := w.heap.size + 1 + 1) (j := 2) (by simp)).set (v := .slice v.on.a v.on.n v.on.c) (b := w.heap.size + 1 + 1) (j := 3) (by simp)).set (v := .slice v.gr.a v.gr.n v.gr.c) (b := w.heap.size + 1 + 1) (j := 4) (by simp)).set (v := .slice v.ba.a v.ba.n v.ba.c) (b := w.heap.size + 1 + 1) (j := 5) (by simp)).set (v := .slice v.ch.a v.ch.n v.ch.c) (b := w.heap.size + 1 + 1) (j := 6) (by simp)).set (v := .slice v.sa.a v.sa.n v.sa.c) (b := w.heap.size + 1 + 1) (j := 7) (by simp)).set (v := .int .i64 v.fl) (b := w.heap.size + 1 + 1) (j := 8) (by simp))
   refine bodyPost_ret (v := .agg #[.slice (some ⟨gp, 0, none⟩) v.pl.n v.pl.c, .slice (some ⟨gs, 0, none⟩) v.st.n v.st.c, .slice v.se.a v.se.n v.se.c, .slice v.on.a v.on.n v.on.c, .slice v.gr.a v.gr.n v.gr.c, .slice v.ba.a v.ba.n v.ba.c, .slice v.ch.a v.ch.n v.ch.c, .slice v.sa.a v.sa.n v.sa.c, .int .i64 v.fl]) (by simp [results, Try.results55, go_sem, y0, y1, y2, y3, y4, y5, y6, y7, y8]) rfl ⟨by rw [← EP.out, ← ES0.out], ?_, ?_, ?_⟩
   ·exact (HFI.out.other (hTT.mono (by simp))).sub (fun q hq => List.mem_cons_of_mem _ hq)
   ·exact (HB.out.trans hBr).trans (hTT.below (by have := hBr.size; have := HB.out.size; omega) (fun q hq => by obtain rfl := xS1 hq; omega))
   ·exact ((HTW.out.trans hT0).extra hTT (fun q hq => by obtain rfl := xS1 hq; omega))
end Go.Proofs.Ytfpgijihiifogaa
