/- Part of a proof: IStepT. -/
import Derived.Test.YtppoohbkkdgljaaVPStep
import Derived.Test.YtppoohbkkdgljaaVIFits
set_option maxRecDepth 100000
set_option maxHeartbeats 16000000
namespace Go.Proofs.Ytppoohbkkdgljaa
open Go.RowKit
abbrev sb3 (w : World) (u : PV) (v : StV) (z : Array Value) : List It := [.blk (w.heap.size + 1 + 1) z 37, .blk (w.heap.size + 1) (svC v) 37, .blk w.heap.size (pvC u) 26]
theorem ziX (u : PV) (v : StV) (w : World) : (Instr.build 105 #[(0, .agg #[.slice u.s u.ns u.cs, .slice u.g u.ng u.cg, .slice u.b u.nb u.cb, .slice u.r u.nr u.cr, .slice u.t u.nt u.ct]), (1, v.val)]).run Try.prog w = .ok (.agg (mC u v false)) w := run_build w 105 _ _ (by kernel_rfl)
theorem ziq (u : PV) (p : Pg) (v : StV) (L : StL) (s : StD) (t : Int) (w : World) (hp : RdP w u p) (hr : StR w v L s) (hf : Run p s) (ht : t ∈ zT s) :
  Calls Try.prog 36 #[.agg #[.slice u.s u.ns u.cs, .slice u.g u.ng u.cg, .slice u.b u.nb u.cb, .slice u.r u.nr u.cr, .slice u.t u.nt u.ct], .agg #[.slice v.pl.a v.pl.n v.pl.c, .slice v.st.a v.st.n v.st.c, .slice v.se.a v.se.n v.se.c, .slice v.on.a v.on.n v.on.c, .slice v.gr.a v.gr.n v.gr.c, .slice v.ba.a v.ba.n v.ba.c, .slice v.ch.a v.ch.n v.ch.c, .slice v.sa.a v.sa.n v.sa.c, .int .i64 v.fl], .int .i64 t] w fun e w' => ∃ (v' : StV) (L' : StL), e = .returned (.tuple #[v'.val, .bool true]) ∧ StO [] w.heap.size w' v' L' (zI p s t) ∧ NewB w.heap.size L' ∧ Below w.heap.size w w' := by
 have HS := xH1 hr
 have HP := xH1 hp
 have HR := xH1 hf
 have HF := xH1 hf.fits
 have HT := xH1 (hf.fits.turn ht)
 have HZ := xH1 hf.fits.sm
 have HRD := xH1 ht
 have r8 : (zT s).length ≤ 8 ∧ s.status.length ≤ 8 := by
  have h1 := hf.fits.nst
  have h2 := (zaB hf.fits.prog).2.2.2.2.1
  refine ⟨?_, by omega⟩
  rw [zes]
  split
  ·have := zez s s.status.length; omega
  ·simp
 clear hr hp hf ht
 have F := (((Fr.start w).alloc (pvC u) 26).alloc (svC v) 37).alloc zC 37
 simp only [World.size_alloc] at F
 have cs := F.c9 1 rfl
 have cp := F.c5 2 rfl
 go_enter Try.func36, Try.ntmps36
 go_wp2_with fail
 refine (zep u p v L s _ (HP.out.below F.bel) (HS.out.below F.bel) HF.out).mono ?_
 rintro e w1 ⟨rfl, hb⟩
 replace F := F.call hb
 replace cs := F.c9 1 rfl
 replace cp := F.c5 2 rfl
 clear hb
 clear cp
 go_wp2_with fail
 refine (zeo v L s _ (HS.out.below F.bel) r8.2).mono ?_
 rintro e w1 ⟨a1, c1, rfl, ho, hb⟩
 have F2 := F.row hb ho
 clear hb ho F cs
 go_wp2_with fail
 refine (zaJ a1 _ c1 (zT s) t _ rfl (by have := r8.1; unfold maxLen; omega) (F2.rdRow 0 rfl)).mono ?_
 rintro e wz ⟨rfl, hw⟩
 obtain rfl := hw
 rw [zhS HRD.out]
 replace F := F2.sub (.cons _ (.refl _))
 clear F2 r8
 go_upto_region 3 with fail
 obtain ⟨u1, hu, F0⟩ := F.named
 rw [← hu]
 clear hu F
 have F := F0
 clear F0
 go_wp2_with fail
 refine zar 5 (by kernel_rfl) (by kernel_rfl) [isV (.agg #[.slice u.s u.ns u.cs, .slice u.g u.ng u.cg, .slice u.b u.nb u.cb, .slice u.r u.nr u.cr, .slice u.t u.nt u.ct]), isV (.agg #[.slice v.pl.a v.pl.n v.pl.c, .slice v.st.a v.st.n v.st.c, .slice v.se.a v.se.n v.se.c, .slice v.on.a v.on.n v.on.c, .slice v.gr.a v.gr.n v.gr.c, .slice v.ba.a v.ba.n v.ba.c, .slice v.ch.a v.ch.n v.ch.c, .slice v.sa.a v.sa.n v.sa.c, .int .i64 v.fl]), fun dz uz wz => ∃ (v' : StV) (L' : StL), uz = v'.val ∧ StO [] u1.heap.size wz v' L' s ∧ NewB u1.heap.size L', fun dz uz wz => ∃ (v' : StV) (L' : StL), uz = .agg (mC u v' false) ∧ StO [] u1.heap.size wz v' L' s ∧ NewB u1.heap.size L', fun dz uz wz => ∃ (M : Nat) (v' : StV) (L' : StL), uz = .pointer (some ⟨M, 0, none⟩) ∧ Sf w wz (.blk M (mC u v' false) 105 :: sb3 w u v zC) v' L' s] ⟨pS, pS, fun _ _ _ _ hb ⟨v', L', e, h, hn⟩ => ⟨v', L', e, h.below hb, hn⟩, fun _ _ _ _ hb ⟨v', L', e, h, hn⟩ => ⟨v', L', e, h.below hb, hn⟩, fun _ _ _ _ hb ⟨M, v', L', e, h⟩ => ⟨M, v', L', e, h.call hb⟩, trivial⟩ ?_ ?_
 ·simp only [List.take_succ_cons, List.take_zero]
  refine ⟨?_, ?_, ?_, ?_, ?_, trivial⟩
  all_goals (intro ρ w1 hG hfr hd; obtain ⟨fc, ff⟩ := fcff hfr; have f3 : ρ (.tmp 3) = .pointer (some ⟨w.heap.size, 0, none⟩) := hfr _ rfl; have f4 : ρ (.tmp 4) = .pointer (some ⟨w.heap.size + 1, 0, none⟩) := hfr _ rfl; have F1 := F.call hG; have cs := F1.c9 1 rfl; have cp := F1.c5 2 rfl; clear F1)
  ·exact gvF hG (by go_simp) rfl xN1
  ·exact gvF hG (by go_simp) rfl xN1
  ·obtain ⟨d0, -⟩ := hd
   have d0 : ρ (.tmp 59) = _ := d0
   refine zL (by go_simp; exact ⟨⟨rfl, rfl⟩, rfl⟩) ?_
   refine (zcD v L s _ ((HS.out.below F.bel).below hG) HZ.out).mono ?_
   rintro e w2 ⟨v', L', rfl, ho, hn, hb⟩
   exact ⟨_, rfl, hb, ⟨v', L', rfl, ho.lower hG.size, NewB.lower hn hG.size⟩, xN1, hG.trans (hb.mono hG.size)⟩
  ·obtain ⟨d0, d1, -⟩ := hd
   have d0 : ρ (.tmp 58) = _ := d0
   have d1 : ∃ (v' : StV) (L' : StL), (ρ (.tmp 60)) = v'.val ∧ StO [] u1.heap.size w1 v' L' s ∧ NewB u1.heap.size L' := d1
   obtain ⟨v', L', d1, ho, hn⟩ := d1
   have hbd := ziX u v' w1
   exact gvF hG (by go_simp) ⟨v', L', rfl, ho, hn⟩ xN1
  ·obtain ⟨d0, -⟩ := hd
   have d0 : ∃ (v' : StV) (L' : StL), (ρ (.tmp 61)) = .agg (mC u v' false) ∧ StO [] u1.heap.size w1 v' L' s ∧ NewB u1.heap.size L' := d0
   obtain ⟨v', L', d0, ho, hn⟩ := d0
   have h9 := (Sf.gain F ho hn hG).alloc (mC u v' false) 105
   refine zf (u := .pointer (some ⟨w1.heap.size, 0, none⟩)) (w' := w1.alloc (.cells (mC u v' false) 105)) (by go_simp) ⟨xA1, ⟨_, v', L', rfl, h9⟩, xN1, hG.alloc hG.size _⟩
 intro vs w2 hG hlen hall
 obtain ⟨xv0, xv1, xv2, xv3, xv4, rfl⟩ := len5 hlen
 clear hlen
 simp only [List.take_succ_cons, List.take_zero, List.drop_succ_cons, List.drop_zero] at hall ⊢
 obtain ⟨hv0, hv1, hv2, hv3, hv4, -⟩ := hall
 replace hv2 : ∃ (v' : StV) (L' : StL), xv2 = v'.val ∧ StO [] u1.heap.size w2 v' L' s ∧ NewB u1.heap.size L' := hv2
 replace hv3 : ∃ (v' : StV) (L' : StL), xv3 = .agg (mC u v' false) ∧ StO [] u1.heap.size w2 v' L' s ∧ NewB u1.heap.size L' := hv3
 replace hv4 : ∃ (M : Nat) (v' : StV) (L' : StL), xv4 = .pointer (some ⟨M, 0, none⟩) ∧ Sf w w2 (.blk M (mC u v' false) 105 :: sb3 w u v zC) v' L' s := hv4
 obtain rfl : xv0 = _ := hv0
 obtain rfl : xv1 = _ := hv1
 simp only [z9, Act.put, List.setIfInBounds_toArray, List.set_cons_succ, List.set_cons_zero]
 obtain ⟨M, v', L', rfl, h⟩ := hv4
 clear hv2 hv3 F hG
 have hrg := HT.out.rg
 have hlt := HT.out.lt
 have hge := HT.out.ge
 obtain ⟨j, rfl⟩ : ∃ j : Nat, t = (j : Int) := ⟨t.toNat, by omega⟩
 have hj : j < p.threads.length := by omega
 rw [show ((j : Int)).toNat = j from rfl] at hlt hge
 rw [zd3] at hlt
 obtain ⟨bt, ot, et, hth4⟩ := HP.out.thr (by omega)
 obtain ⟨a2, c2, ct, r2⟩ := hth4 j hj
 obtain ⟨bp, op, ep, gp⟩ := HS.out.pl.rd.int (by rw [HF.out.np]; omega)
 replace gp := gp j (by rw [HF.out.np]; exact hj)
 obtain ⟨i, hi⟩ : ∃ i : Nat, s.places.getD j 0 = (i : Int) := ⟨(s.places.getD j 0).toNat, by omega⟩
 rw [hi] at gp hlt
 obtain ⟨m, hm⟩ : ∃ m, m = (p.threads.getD j []).length := ⟨_, rfl⟩
 rw [← hm] at hlt ct
 have him : i < m := by omega
 obtain ⟨b2, o2, rfl, g'⟩ := r2.op (by omega)
 obtain ⟨g0, g1, g2⟩ := g' i (by omega)
 have hop : (p.threads.getD j []).getD i noOp = opAt p s j := by unfold opAt zb3; rw [show ((j : Int)).toNat = j from rfl, hi]; rfl
 rw [hop] at g0 g1 g2
 have hopv := HF.out.opv HT.out
 obtain ⟨⟨kd, on, ar⟩, ho⟩ : ∃ o, o = opAt p s j := ⟨_, rfl⟩
 rw [← ho] at g0 g1 g2 hopv
 have HO := xH1 ho
 have HOV := xH1 hopv
 dsimp only at g0 g1 g2
 replace ct := zd h.fr.bel ct
 replace gp := zd h.fr.bel gp
 replace g0 := zd h.fr.bel g0
 replace g1 := zd h.fr.bel g1
 replace g2 := zd h.fr.bel g2
 have k0 : (0 : Int) ≤ (j : Int) := by omega
 have k1 : (j : Int) < (u.nt : Int) := by rw [← HP.out.lt]; omega
 have k2 : (j : Int) < (v.pl.n : Int) := by rw [HS.out.pl.len, HF.out.np]; omega
 have k3 : (j : Int) < (v.st.n : Int) := by rw [HS.out.st.len, HF.out.nst]; omega
 have k4 : (i : Int) < (m : Int) := by omega
 have k5 : (0 : Int) ≤ (i : Int) := by omega
 have m8 : m ≤ 8 := by rw [hm]; exact (zaB HF.out.prog).2.2.2.2.2 j
 have ET := xH1 et
 have EP := xH1 ep
 clear hrg hge hlt hth4 r2 g' hop ho hopv et ep hi hm hj
 obtain ⟨u2, rfl⟩ : ∃ x, x = w2 := ⟨_, rfl⟩
 go_wp2_with fail
 refine zar 13 (by kernel_rfl) (by kernel_rfl) [isV (.pointer (some ⟨w.heap.size, 4, none⟩)), isV (.slice u.t u.nt u.ct), isV (.int .i64 j), isV (.pointer (some ⟨bt, ot + j, none⟩)), isV (.slice (some ⟨b2, o2, none⟩) m c2), isV (.pointer (some ⟨w.heap.size + 1, 0, none⟩)), isV (.slice v.pl.a v.pl.n v.pl.c), isV (.int .i64 j), isV (.pointer (some ⟨bp, op + j, none⟩)), isV (.int .i64 i), isV (.pointer (some ⟨b2, o2 + i * 3, none⟩)), isV (.agg #[.int .i64 kd, .int .i64 on, .int .i64 ar]), fun dz uz wz => ∃ gz : Nat, uz = .pointer (some ⟨gz, 0, none⟩) ∧ Blk wz gz #[.int .i64 0, .int .i64 0, .int .i64 0] 44 ∧ u2.heap.size ≤ gz] ⟨pS, pS, pS, pS, pS, pS, pS, pS, pS, pS, pS, pS, fun _ _ _ _ hb ⟨g, e, h, hs⟩ => ⟨g, e, h.below hb, hs⟩, trivial⟩ ?_ ?_
 ·simp only [List.take_succ_cons, List.take_zero]
  refine ⟨?_, ?_, ?_, ?_, ?_, ?_, ?_, ?_, ?_, ?_, ?_, ?_, ?_, trivial⟩
  all_goals (intro ρ w1 hG hfr hd; obtain ⟨fc, ff⟩ := fcff hfr; have f3 : ρ (.tmp 3) = .pointer (some ⟨w.heap.size, 0, none⟩) := hfr _ rfl; have f2 : ρ (.tmp 2) = .int .i64 j := hfr _ rfl; have f4 : ρ (.tmp 4) = .pointer (some ⟨w.heap.size + 1, 0, none⟩) := hfr _ rfl; have F1 := h.fr.call hG; have cs := F1.c9 2 rfl; have cp := F1.c5 3 rfl; have ct := (fun _ => zd hG ct) F1; have gp := (fun _ => zd hG gp) F1; have g0 := (fun _ => zd hG g0) F1; have g1 := (fun _ => zd hG g1) F1; have g2 := (fun _ => zd hG g2) F1; clear F1)
  ·exact gvF hG (by go_simp) rfl xN1
  ·obtain ⟨d0, -⟩ := hd
   have d0 : ρ (.tmp 63) = _ := d0
   exact gvF hG (by go_simp) rfl xN1
  ·exact gvF hG (by go_simp) rfl xN1
  ·obtain ⟨d0, d1, -⟩ := hd
   have d0 : ρ (.tmp 64) = _ := d0
   have d1 : ρ (.tmp 65) = _ := d1
   rw [ET.out] at d0
   exact gvF hG (by go_simp) rfl xN1
  ·obtain ⟨d0, -⟩ := hd
   have d0 : ρ (.tmp 66) = _ := d0
   exact gvF hG (by go_simp) rfl xN1
  ·exact gvF hG (by go_simp) rfl xN1
  ·obtain ⟨d0, -⟩ := hd
   have d0 : ρ (.tmp 68) = _ := d0
   exact gvF hG (by go_simp) rfl xN1
  ·exact gvF hG (by go_simp) rfl xN1
  ·obtain ⟨d0, d1, -⟩ := hd
   have d0 : ρ (.tmp 69) = _ := d0
   have d1 : ρ (.tmp 70) = _ := d1
   rw [EP.out] at d0
   exact gvF hG (by go_simp) rfl xN1
  ·obtain ⟨d0, -⟩ := hd
   have d0 : ρ (.tmp 71) = _ := d0
   exact gvF hG (by go_simp) rfl xN1
  ·obtain ⟨d0, d1, -⟩ := hd
   have d0 : ρ (.tmp 67) = _ := d0
   have d1 : ρ (.tmp 72) = _ := d1
   exact gvF hG (by go_simp) rfl xN1
  ·obtain ⟨d0, -⟩ := hd
   have d0 : ρ (.tmp 73) = _ := d0
   exact gvF hG (by go_simp) rfl xN1
  ·refine zf (u := .pointer (some ⟨w1.heap.size, 0, none⟩)) (w' := w1.alloc (.cells #[.int .i64 0, .int .i64 0, .int .i64 0] 44)) (by go_simp) ⟨xA1, ⟨_, rfl, Blk.new _ _ _, hG.size⟩, xN1, hG.alloc hG.size _⟩
 intro vs w2 hG hlen hall
 obtain ⟨xv0, xv1, xv2, xv3, xv4, xv5, xv6, xv7, xv8, xv9, xv10, xv11, xv12, rfl⟩ := zi4 hlen
 clear hlen
 simp only [List.take_succ_cons, List.take_zero, List.drop_succ_cons, List.drop_zero] at hall ⊢
 obtain ⟨hv0, hv1, hv2, hv3, hv4, hv5, hv6, hv7, hv8, hv9, hv10, hv11, hv12, -⟩ := hall
 replace hv12 : ∃ gz : Nat, xv12 = .pointer (some ⟨gz, 0, none⟩) ∧ Blk w2 gz #[.int .i64 0, .int .i64 0, .int .i64 0] 44 ∧ u2.heap.size ≤ gz := hv12
 obtain rfl : xv0 = _ := hv0
 obtain rfl : xv1 = _ := hv1
 obtain rfl : xv2 = _ := hv2
 obtain rfl : xv3 = _ := hv3
 obtain rfl : xv4 = _ := hv4
 obtain rfl : xv5 = _ := hv5
 obtain rfl : xv6 = _ := hv6
 obtain rfl : xv7 = _ := hv7
 obtain rfl : xv8 = _ := hv8
 obtain rfl : xv9 = _ := hv9
 obtain rfl : xv10 = _ := hv10
 obtain rfl : xv11 = _ := hv11
 simp only [z9, Act.put, List.setIfInBounds_toArray, List.set_cons_succ, List.set_cons_zero]
 obtain ⟨bo, rfl, kO, hbo⟩ := hv12
 replace h := h.more hG (i := .blk bo #[.int .i64 0, .int .i64 0, .int .i64 0] 44) ⟨hbo, kO⟩
 have co := h.c3 0 rfl
 have h2 := h.set3 0 rfl (.int .i64 kd) (.int .i64 on) (.int .i64 ar)
 clear ct gp g0 g1 g2 hG kO hbo
 go_upto_region 5 with fail
 obtain ⟨W, hw, h3⟩ := h2.named
 rw [← hw]
 clear hw h2 h co
 have hmf : ∀ (fn : Fn) (first cap : Array Value) (w : World), (Instr.makeFunc fn first cap).run Try.prog w = .ok (.func fn first cap) w := fun _ _ _ _ => rfl
 have co := h3.c3 0 rfl
 go_upto_region 7 with fail
 clear co
 have hk := zfT HOV.out
 have h : Sf w W (.blk M (mC u v' false) 105 :: .blk bo #[.int .i64 kd, .int .i64 on, .int .i64 ar] 44 :: sb3 w u v zC) v' L' s := h3.pull 1 rfl
 clear h3
 have P8 : Hid (0 < s.places.length ∧ s.places.length ≤ 8 ∧ s.places.length = s.status.length) := xH1 (by have h1 := HF.out.np; have h2 := HF.out.nst; have := (zaB HF.out.prog).2.2.2.2.1; omega)
 have PL8 : Hid (∀ i, 0 ≤ s.places.getD i 0 ∧ s.places.getD i 0 ≤ 8) := xH1 (fun i => HF.out.place_le i)
 have TT : Hid (0 ≤ (j : Int) ∧ (j : Int) < p.threads.length ∧ (j : Int) < s.places.length) := xH1 (by have h1 := HF.out.np; have h2 := HP.out.lt; omega)
 have HST : Hid (Run p (zI p s j)) := xH1 (HR.out.step HT.out)
 have HVS := xH1 (zdK HF.out.prog HP.out)
 dsimp only at hk
 have T6 : Hid (0 ≤ (j : Int) ∧ (j : Int) < 6) := xH1 (by have := TT.out; have := (zaB HF.out.prog).2.2.2.2.1; omega)
 have NOT : Hid ((j : Int) ∉ oT s ∨ kd = 4) := xH1 (by
  rcases HT.out.st with ⟨-, h1⟩ | ⟨-, h1, -⟩
  ·exact .inl h1
  ·rw [← HO.out] at h1; exact .inr h1)
 have hkk : kd = 1 ∨ kd = 2 ∨ kd = 3 ∨ kd = 4 ∨ kd = 5 ∨ kd = 6 ∨ kd = 7 ∨ kd = 8 ∨ kd = 9 ∨ kd = 10 := by omega
 clear hk
 rcases hkk with rfl | rfl | rfl | rfl | rfl | rfl | rfl | rfl | rfl | rfl
 focus
  have HE : Hid (zI p s j = goAll p (sayIt s ar) [(j : Int)]) := xH1 (by unfold zI; rw [← HO.out]; rfl)
  have hsl : s.said.length < 64 := by have h1 := HR.out.said; have h2 := HF.out.sum32; omega
  go_upto_region 8 with fail
  have co := h.fr.c3 1 rfl
  go_wp2_with fail
  refine (ze6 w _ _ M u v' L' s false ar h hsl).mono ?_
  rintro e Wa ⟨rfl, r, h1⟩
  clear h hsl co
  have h2 := h1.alloc #[.int .i64 j] 3
  have hw : SlR (StV.blks { v' with sa := r }) (World.alloc Wa (.cells #[.int .i64 j] 3)) ⟨some ⟨Wa.heap.size, 0, none⟩, 1, 1⟩ (ints [(j : Int)]) [(j : Int)].length := ⟨rfl, Rd.of_blk (h2.fr.blk 0 rfl), .inr (fun b hb hm => by have h9 := (h1.st.from b hm).2; simp only [zi, Option.some.injEq] at hb; omega), Nat.le_refl _⟩
  go_wp2_with fail
  refine (zav w _ _ M u p { v' with sa := r } L' (sayIt s ar) false _ 1 1 [(j : Int)] (h2.pull 1 rfl) HP.out HVS.out hw (by simp) P8.out (fun z hz' => by obtain rfl := xS1 hz'; exact TT.out) PL8.out).mono ?_
  rintro e Wb ⟨rfl, h3, -⟩
  clear h2 hw h1
  have h := h3.sub (l' := .blk M (mC u { v' with sa := r } false) 105 :: .blk bo #[.int .i64 1, .int .i64 on, .int .i64 ar] 44 :: sb3 w u v zC) (.cons_cons _ (.cons _ (.refl _)))
  clear h3
  obtain ⟨vv, hvv⟩ : ∃ x, x = { v' with sa := r } := ⟨_, rfl⟩
  rw [← hvv] at h
  clear hvv
 rotate_left
 focus
  obtain ⟨on0, on1⟩ := zbO HOV.out
  rw [show zv p (2 : Int) = p.sems.length by unfold zv; rw [if_neg (by omega), if_pos (.inl rfl)]] at on1
  dsimp only at on0 on1
  obtain ⟨i2, rfl⟩ : ∃ z : Nat, on = z := ⟨on.toNat, by omega⟩
  have hi : i2 < s.sems.length := by rw [HF.out.nse]; omega
  have HI := xH1 hi
  obtain ⟨b1, o1, ea, g'⟩ := HS.out.se.rd.flat zdA zcY (by rw [HS.out.inn.se.len]; have := hi; omega) (by decide)
  obtain ⟨⟨x, q⟩, hxq⟩ : ∃ y, y = L.se.getD i2 zcY := ⟨_, rfl⟩
  have hx : x = s.sems.getD i2 zE := by have := HS.out.inn.se.fst zE nilV i2; rw [← this]; exact congrArg Prod.fst hxq
  have hR := HS.out.inn.se.at zE nilV (i := i2) hi
  replace g' := g' i2 (by rw [HS.out.inn.se.len]; exact hi)
  rw [← hxq] at g'
  rw [show L.se.getD i2 (zE, _) = (x, q) from hxq.symm, ← hx] at hR
  have HX := xH1 hx
  have g0 : w.cell? ⟨b1, o1 + i2 * 3, none⟩ = some (.int .i64 x.free) := by have := g' 0 (by decide); simpa [semC] using this
  have g1 : w.cell? ⟨b1, o1 + i2 * 3 + 1, none⟩ = some (.int .i64 x.limit) := by have := g' 1 (by decide); simpa [semC] using this
  have g2 : w.cell? ⟨b1, o1 + i2 * 3 + 2, none⟩ = some (.slice q.a q.n q.c) := by have := g' 2 (by decide); simpa [semC] using this
  have Q0 := xH1 ((show SlR [] w q (zH x.queue) x.queue.length from hR).rd)
  have QL0 := xH1 (show SlR [] w q (zH x.queue) x.queue.length from hR).len
  have QC0 := xH1 (show SlR [] w q (zH x.queue) x.queue.length from hR).cap
  clear g' hx hxq hR
  have HOK := xH1 (HF.out.se i2 hi)
  rw [← HX.out] at HOK
  have j0 : (0 : Int) ≤ (i2 : Int) := by omega
  have j1 : (i2 : Int) < (v.se.n : Int) := by rw [HS.out.se.len]; omega
  have EA := xH1 ea
  replace g0 := zd h.fr.bel g0
  replace g1 := zd h.fr.bel g1
  replace g2 := zd h.fr.bel g2
  clear hi ea on0 on1
  have hperm := zfQ HOV.out (.inl rfl)
  dsimp only at hperm
  rw [show ((i2 : Nat) : Int).toNat = i2 from rfl, ← HOK.out.2] at hperm
  have HPM := xH1 hperm
  have hno : (j : Int) ∉ oT s := NOT.out.resolve_right (by decide)
  have HNW : Hid ((j : Int) ∉ x.queue.map (·.1)) := xH1 (fun hm => by
   obtain ⟨z, hz, e⟩ := List.mem_map.1 hm
   exact HT.out.ne (List.mem_map.2 ⟨(z.1, 2, ((i2 : Nat) : Int), z.2), zdM HI.out (by rw [← HX.out]; exact List.mem_map.2 ⟨z, hz, rfl⟩), e⟩))
  have HE : Hid (zI p s j = za1 p (setSem s i2 (zbr x j ar).1) j (zbr x j ar).2) := xH1 (by
   unfold zI
   rw [← HO.out, HX.out]
   rfl)
  obtain ⟨YB, hYB⟩ : ∃ Y, Y = zbr x j ar := ⟨_, rfl⟩
  have HYB := xH1 hYB
  rw [← hYB] at HE
  obtain ⟨Y, bb⟩ := YB
  clear hno hperm hYB
  go_upto_region 11 with fail
  go_wp2_with fail
  obtain ⟨u3, rfl⟩ : ∃ x, x = W := ⟨_, rfl⟩
  refine zcP 17 88 15 (by kernel_rfl) (by kernel_rfl) [isV (.pointer (some ⟨w.heap.size + 1, 2, none⟩)), isV (.slice v.se.a v.se.n v.se.c), isV (.pointer (some ⟨bo, 1, none⟩)), isV (.int .i64 i2), isV (.pointer (some ⟨b1, o1 + i2 * 3, none⟩)), isV (.agg #[.int .i64 x.free, .int .i64 x.limit, .slice q.a q.n q.c]), isV (.int .i64 j), isV (.pointer (some ⟨bo, 2, none⟩)), isV (.int .i64 ar), fun dz uz wz => (∃ (r : SlV), uz = .tuple #[.agg #[.int .i64 Y.free, .int .i64 Y.limit, .slice r.a r.n r.c], .bool bb, .bool true] ∧ SlN u3 wz r (zH Y.queue) Y.queue.length), fun dz uz wz => (uz = (dz.getD 0 undef) ∧ ∃ (r : SlV), uz = .tuple #[.agg #[.int .i64 Y.free, .int .i64 Y.limit, .slice r.a r.n r.c], .bool bb, .bool true]), fun dz uz wz => (uz = zV (dz.getD 0 undef) 0 ∧ ∃ (r : SlV), uz = .agg #[.int .i64 Y.free, .int .i64 Y.limit, .slice r.a r.n r.c]), fun dz uz wz => uz = .bool bb, fun dz uz wz => uz = .bool true, fun dz uz wz => (∃ (g : Nat) (ds : Array Value), uz = .pointer (some ⟨g, 0, none⟩) ∧ ds.size = 3 ∧ Blk wz g ds 88 ∧ u3.heap.size ≤ g), fun dz uz wz => (∃ (g : Nat) (r : SlV), (dz.getD 0 undef) = .pointer (some ⟨g, 0, none⟩) ∧ (dz.getD 1 undef) = .agg #[.int .i64 Y.free, .int .i64 Y.limit, .slice r.a r.n r.c] ∧ Blk wz g #[.int .i64 Y.free, .int .i64 Y.limit, .slice r.a r.n r.c] 88), fun dz uz wz => uz = .bool bb] ⟨pS, pS, pS, pS, pS, pS, pS, pS, pS, fun _ _ _ _ hb ⟨r, e, m0⟩ => ⟨r, e, m0.below hb⟩, fun _ _ _ _ _ h => h, fun _ _ _ _ _ h => h, fun _ _ _ _ _ h => h, fun _ _ _ _ _ h => h, fun _ _ _ _ hb ⟨g, ds, e, hz, h, hs⟩ => ⟨g, ds, e, hz, h.below hb, hs⟩, fun _ _ _ _ hb ⟨g, r, e1, e2, h⟩ => ⟨g, r, e1, e2, h.below hb⟩, fun _ _ _ _ _ h => h, trivial⟩ ⟨.inr (pS), .inr (pS), .inr (pS), .inr (pS), .inr (pS), .inr (pS), .inr (pS), .inr (pS), .inr (pS), .inr (fun _ _ _ _ hT ⟨r, e, m0⟩ => ⟨r, e, m0.ts hT (by decide)⟩), .inr (fun _ _ _ _ _ h => h), .inr (fun _ _ _ _ _ h => h), .inr (fun _ _ _ _ _ h => h), .inr (fun _ _ _ _ _ h => h), .inr (fun _ _ _ _ hT ⟨g, ds, e, hz, h, hs⟩ => ⟨g, (hT.prg g ds h).choose, e, (hT.prg g ds h).choose_spec.1.trans hz, (hT.prg g ds h).choose_spec.2, hs⟩), .inl rfl, .inr (fun _ _ _ _ _ h => h), trivial⟩ ?_ ?_
  ·simp only [List.take_succ_cons, List.take_zero]
   refine ⟨?_, ?_, ?_, ?_, ?_, ?_, ?_, ?_, ?_, ?_, ?_, ?_, ?_, ?_, ?_, ?_, ?_, trivial⟩
   all_goals (intro ρ w1 L hG hny hfr hd; obtain ⟨fc, ff⟩ := fcff hfr; have f4 : ρ (.tmp 4) = .pointer (some ⟨w.heap.size + 1, 0, none⟩) := hfr _ rfl; have f9 : ρ (.tmp 9) = .pointer (some ⟨bo, 0, none⟩) := hfr _ rfl; have f2 : ρ (.tmp 2) = .int .i64 j := hfr _ rfl; have F1 := h.fr.call hG; have cs := F1.c9 3 rfl; have co := F1.c3 1 rfl; have g0 := (fun _ => zd hG g0) F1; have g1 := (fun _ => zd hG g1) F1; have g2 := (fun _ => zd hG g2) F1; clear F1)
   ·exact gvT hG (by go_simp) rfl xN1
   ·obtain ⟨d0, -⟩ := hd
    have d0 : ρ (.tmp 91) = _ := d0
    exact gvT hG (by go_simp) rfl xN1
   ·exact gvT hG (by go_simp) rfl xN1
   ·obtain ⟨d0, -⟩ := hd
    have d0 : ρ (.tmp 93) = _ := d0
    exact gvT hG (by go_simp) rfl xN1
   ·obtain ⟨d0, d1, -⟩ := hd
    have d0 : ρ (.tmp 92) = _ := d0
    have d1 : ρ (.tmp 94) = _ := d1
    rw [EA.out] at d0
    exact gvT hG (by go_simp) rfl xN1
   ·obtain ⟨d0, -⟩ := hd
    have d0 : ρ (.tmp 95) = _ := d0
    exact gvT hG (by go_simp) rfl xN1
   ·exact gvT hG (by go_simp) rfl xN1
   ·exact gvT hG (by go_simp) rfl xN1
   ·obtain ⟨d0, -⟩ := hd
    have d0 : ρ (.tmp 98) = _ := d0
    exact gvT hG (by go_simp) rfl xN1
   ·obtain ⟨d0, d1, d2, -⟩ := hd
    have d0 : ρ (.tmp 96) = _ := d0
    have d1 : ρ (.tmp 97) = _ := d1
    have d2 : ρ (.tmp 99) = _ := d2
    refine zL (by go_simp; exact ⟨⟨rfl, rfl⟩, rfl⟩) ?_
    refine (zhc x q.a q.n q.c j ar w1 QL0.out.symm ((h.fr.call hG).rd Q0.out) HOK.out.1 T6.out HPM.out HNW.out).mono ?_
    rintro e w2 ⟨y, r, hy, rfl, hr, hb⟩
    obtain rfl : y = Y := by rw [hy, ← HYB.out]
    have hbb : (zbr x j ar).2 = bb := by rw [← HYB.out]
    rw [hbb]
    exact ⟨_, rfl, zD (by decide) hb, ⟨r, rfl, hr.mono hG.size⟩, xN1, hG.trans (hb.mono hG.size)⟩
   ·obtain ⟨d0, -⟩ := hd
    have d0 : (∃ (r : SlV), (ρ (.tmp 100)) = .tuple #[.agg #[.int .i64 Y.free, .int .i64 Y.limit, .slice r.a r.n r.c], .bool bb, .bool true] ∧ SlN u3 w1 r (zH Y.queue) Y.queue.length) := d0
    obtain ⟨r, d0, -⟩ := d0
    refine zf (u := .tuple #[.agg #[.int .i64 Y.free, .int .i64 Y.limit, .slice r.a r.n r.c], .bool bb, .bool true]) (w' := w1) (by go_simp) ⟨zD (by decide) xB1, ⟨d0.symm, ⟨r, rfl⟩⟩, xN1, hG⟩
   ·obtain ⟨d0, -⟩ := hd
    have d0 : ((ρ (.tmp 90)) = (ρ (.tmp 100)) ∧ ∃ (r : SlV), (ρ (.tmp 90)) = .tuple #[.agg #[.int .i64 Y.free, .int .i64 Y.limit, .slice r.a r.n r.c], .bool bb, .bool true]) := d0
    obtain ⟨r, d1⟩ := d0.2
    clear d0
    refine zf (u := .agg #[.int .i64 Y.free, .int .i64 Y.limit, .slice r.a r.n r.c]) (w' := w1) (by go_simp) ⟨zD (by decide) xB1, ⟨by show (.agg #[.int .i64 Y.free, .int .i64 Y.limit, .slice r.a r.n r.c] : Value) = zV (ρ (.tmp 90)) 0; rw [d1]; rfl, ⟨r, rfl⟩⟩, xN1, hG⟩
   ·obtain ⟨d0, -⟩ := hd
    have d0 : ((ρ (.tmp 90)) = (ρ (.tmp 100)) ∧ ∃ (r : SlV), (ρ (.tmp 90)) = .tuple #[.agg #[.int .i64 Y.free, .int .i64 Y.limit, .slice r.a r.n r.c], .bool bb, .bool true]) := d0
    obtain ⟨r, d1⟩ := d0.2
    clear d0
    refine zf (u := .bool bb) (w' := w1) (by go_simp) ⟨zD (by decide) xB1, rfl, xN1, hG⟩
   ·obtain ⟨d0, -⟩ := hd
    have d0 : ((ρ (.tmp 90)) = (ρ (.tmp 100)) ∧ ∃ (r : SlV), (ρ (.tmp 90)) = .tuple #[.agg #[.int .i64 Y.free, .int .i64 Y.limit, .slice r.a r.n r.c], .bool bb, .bool true]) := d0
    obtain ⟨r, d1⟩ := d0.2
    clear d0
    refine zf (u := .bool true) (w' := w1) (by go_simp) ⟨zD (by decide) xB1, rfl, xN1, hG⟩
   ·refine zf (u := .pointer (some ⟨w1.heap.size, 0, none⟩)) (w' := w1.alloc (.cells #[.int .i64 0, .int .i64 0, .slice none 0 0] 88)) (by go_simp) ⟨zD (by decide) (xA1), ⟨_, _, rfl, rfl, Blk.new _ _ _, hG.size⟩, xN1, hG.alloc hG.size _⟩
   ·obtain ⟨d0, d1, -⟩ := hd
    have d0 : (∃ (g : Nat) (ds : Array Value), (ρ (.tmp 11)) = .pointer (some ⟨g, 0, none⟩) ∧ ds.size = 3 ∧ Blk w1 g ds 88 ∧ u3.heap.size ≤ g) := d0
    have d1 : ((ρ (.tmp 101)) = zV (ρ (.tmp 90)) 0 ∧ ∃ (r : SlV), (ρ (.tmp 101)) = .agg #[.int .i64 Y.free, .int .i64 Y.limit, .slice r.a r.n r.c]) := d1
    obtain ⟨g, ds, e10, hz, hB, hgs⟩ := d0
    obtain ⟨c0, c1, c2, rfl⟩ := arr3 hz
    obtain ⟨r, d1'⟩ := d1.2
    clear d1
    have d1 := d1'
    have z0 := hB.cell 0 rfl
    have y0 := hB.fz 0
    have z1 := hB.cell 1 rfl
    have y1 := hB.fz 1
    have z2 := hB.cell 2 rfl
    have y2 := hB.fz 2
    have hst : TS 88 u3.heap.size w1 (((w1.setCell ⟨g, 0, none⟩ (.int .i64 Y.free)).setCell ⟨g, 1, none⟩ (.int .i64 Y.limit)).setCell ⟨g, 2, none⟩ (.slice r.a r.n r.c)) := TS.all [.int .i64 Y.free, .int .i64 Y.limit, .slice r.a r.n r.c] 0 hB hgs
    have hkk : Blk (((w1.setCell ⟨g, 0, none⟩ (.int .i64 Y.free)).setCell ⟨g, 1, none⟩ (.int .i64 Y.limit)).setCell ⟨g, 2, none⟩ (.slice r.a r.n r.c)) g #[.int .i64 Y.free, .int .i64 Y.limit, .slice r.a r.n r.c] 88 := (Blk.set (Blk.set (Blk.set hB 0 (.int .i64 Y.free)) 1 (.int .i64 Y.limit)) 2 (.slice r.a r.n r.c))
    refine zdu (w' := (((w1.setCell ⟨g, 0, none⟩ (.int .i64 Y.free)).setCell ⟨g, 1, none⟩ (.int .i64 Y.limit)).setCell ⟨g, 2, none⟩ (.slice r.a r.n r.c))) (by go_simp) ⟨zdm hst, ⟨g, r, e10, d1, hkk⟩, xN1, hG.trans hst.bel⟩
   ·obtain ⟨d0, -⟩ := hd
    have d0 : ρ (.tmp 102) = _ := d0
    refine zf (u := .bool bb) (w' := w1) (by go_simp) ⟨zD (by decide) xB1, rfl, xN1, hG⟩
  intro vs w2 hG hlen hall
  obtain ⟨xv0, xv1, xv2, xv3, xv4, xv5, xv6, xv7, xv8, xv9, xv10, xv11, xv12, xv13, xv14, xv15, xv16, rfl⟩ := ziP hlen
  clear hlen
  simp only [List.take_succ_cons, List.take_zero, List.drop_succ_cons, List.drop_zero] at hall ⊢
  obtain ⟨hv0, hv1, hv2, hv3, hv4, hv5, hv6, hv7, hv8, hv9, hv10, hv11, hv12, hv13, hv14, hv15, hv16, -⟩ := hall
  replace hv9 : (∃ (r : SlV), xv9 = .tuple #[.agg #[.int .i64 Y.free, .int .i64 Y.limit, .slice r.a r.n r.c], .bool bb, .bool true] ∧ SlN u3 w2 r (zH Y.queue) Y.queue.length) := hv9
  replace hv10 : (xv10 = xv9 ∧ ∃ (r : SlV), xv10 = .tuple #[.agg #[.int .i64 Y.free, .int .i64 Y.limit, .slice r.a r.n r.c], .bool bb, .bool true]) := hv10
  replace hv11 : (xv11 = zV xv10 0 ∧ ∃ (r : SlV), xv11 = .agg #[.int .i64 Y.free, .int .i64 Y.limit, .slice r.a r.n r.c]) := hv11
  replace hv14 : (∃ (g : Nat) (ds : Array Value), xv14 = .pointer (some ⟨g, 0, none⟩) ∧ ds.size = 3 ∧ Blk w2 g ds 88 ∧ u3.heap.size ≤ g) := hv14
  replace hv15 : (∃ (g : Nat) (r : SlV), xv14 = .pointer (some ⟨g, 0, none⟩) ∧ xv11 = .agg #[.int .i64 Y.free, .int .i64 Y.limit, .slice r.a r.n r.c] ∧ Blk w2 g #[.int .i64 Y.free, .int .i64 Y.limit, .slice r.a r.n r.c] 88) := hv15
  obtain rfl : xv0 = _ := hv0
  obtain rfl : xv1 = _ := hv1
  obtain rfl : xv2 = _ := hv2
  obtain rfl : xv3 = _ := hv3
  obtain rfl : xv4 = _ := hv4
  obtain rfl : xv5 = _ := hv5
  obtain rfl : xv6 = _ := hv6
  obtain rfl : xv7 = _ := hv7
  obtain rfl : xv8 = _ := hv8
  obtain rfl : xv12 = _ := hv12
  obtain rfl : xv13 = _ := hv13
  obtain rfl : xv16 = _ := hv16
  obtain ⟨r, rfl, hm0⟩ := hv9
  obtain ⟨rfl, -⟩ := hv10
  have he11 : xv11 = .agg #[.int .i64 Y.free, .int .i64 Y.limit, .slice r.a r.n r.c] := by simpa [zV] using hv11.1
  subst he11
  obtain ⟨gA1, dA1, rfl, -, -, hgA1⟩ := hv14
  obtain ⟨gA2, r2, e1, e2, kN⟩ := hv15
  obtain rfl : gA1 = gA2 := by simpa using e1
  have e3 : (#[.int .i64 Y.free, .int .i64 Y.limit, .slice r.a r.n r.c] : Array Value) = #[.int .i64 Y.free, .int .i64 Y.limit, .slice r2.a r2.n r2.c] := by
   have h1 : Value.agg #[.int .i64 Y.free, .int .i64 Y.limit, .slice r.a r.n r.c] = .agg #[.int .i64 Y.free, .int .i64 Y.limit, .slice r2.a r2.n r2.c] := e2
   injection h1
  rw [← e3] at kN
  clear e1 e2 e3 hv11
  simp only [z9, Act.put, List.setIfInBounds_toArray, List.set_cons_succ, List.set_cons_zero]
  replace hm0 := hm0
  have hq : semR (zZ (.blk M (mC u v' false) 105 :: .blk bo #[.int .i64 2, .int .i64 (i2 : Int), .int .i64 ar] 44 :: sb3 w u v zC) ++ v'.blks) w2 Y r := h.apart hm0
  replace h := h.call hG
  clear g0 g1 g2 hG hm0
  obtain ⟨gt, eg, -, -⟩ := zaT h.st.se (by rw [h.st.nse]; have := HI.out; omega)
  have EG := xH1 eg
  have ownP := h.st.se
  rw [show v'.se.val = .slice (some ⟨gt, 0, none⟩) v'.se.n v'.se.c by rw [← EG.out]] at ownP
  have fz0 := ownP.frozenAt (i2 * 3)
  have fz1 := ownP.frozenAt (i2 * 3 + 1)
  have fz2 := ownP.frozenAt (i2 * 3 + 2)
  obtain ⟨y0, cg0⟩ := zQ ownP (i2 * 3) (by have := HI.out; have := h.st.nse; omega)
  obtain ⟨y1, cg1⟩ := zQ ownP (i2 * 3 + 1) (by have := HI.out; have := h.st.nse; omega)
  obtain ⟨y2, cg2⟩ := zQ ownP (i2 * 3 + 2) (by have := HI.out; have := h.st.nse; omega)
  have hP := h.st.put_se (g := gt) EG.out i2 HI.out (x := Y) (q := r) hq
  have hgm : gt ∈ v'.blks := StV.mem_se (by rw [EG.out]; rfl)
  have h6 := h.put hgm hP
  clear hP hgm
  have qm : World.cell? _ ⟨M, 7, none⟩ = some (.slice v'.se.a v'.se.n v'.se.c) := h.fr.cell 0 7 rfl rfl
  rw [EG.out] at qm
  have co := h.fr.c3 1 rfl
  have n0 := kN.cell 0 rfl
  have n1 := kN.cell 1 rfl
  have n2 := kN.cell 2 rfl
  have j2 : (i2 : Int) < (v'.se.n : Int) := by rw [h.st.nse]; have := HI.out; omega
  clear ownP eg
  go_wp2
  go_still_tail 9, (by kernel_rfl)
  go_upto_region 13 with fail
  obtain ⟨W3, hw, h7⟩ := h6.drew.named
  rw [← hw]
  clear h6 h hw kN co qm hq n0 fz0 cg0 n1 fz1 cg1 n2 fz2 cg2
  replace HE : Hid (zI p s j = za1 p { s with sems := s.sems.set i2 Y } j bb) := xH1 HE.out
  go_wp2_with fail
  refine (zbL w _ _ M u p v' _ _ false j bb h7 HP.out HVS.out P8.out TT.out PL8.out).mono ?_
  rintro e Wb ⟨rfl, h⟩
  clear h7
  obtain ⟨vv, hvv⟩ : ∃ x, x = v' := ⟨_, rfl⟩
  rw [← hvv] at h
  clear hvv
 rotate_left
 focus
  obtain ⟨on0, on1⟩ := zbO HOV.out
  rw [show zv p (3 : Int) = p.sems.length by unfold zv; rw [if_neg (by omega), if_pos (.inr rfl)]] at on1
  dsimp only at on0 on1
  obtain ⟨i2, rfl⟩ : ∃ z : Nat, on = z := ⟨on.toNat, by omega⟩
  have hi : i2 < s.sems.length := by rw [HF.out.nse]; omega
  have HI := xH1 hi
  obtain ⟨b1, o1, ea, g'⟩ := HS.out.se.rd.flat zdA zcY (by rw [HS.out.inn.se.len]; have := hi; omega) (by decide)
  obtain ⟨⟨x, q⟩, hxq⟩ : ∃ y, y = L.se.getD i2 zcY := ⟨_, rfl⟩
  have hx : x = s.sems.getD i2 zE := by have := HS.out.inn.se.fst zE nilV i2; rw [← this]; exact congrArg Prod.fst hxq
  have hR := HS.out.inn.se.at zE nilV (i := i2) hi
  replace g' := g' i2 (by rw [HS.out.inn.se.len]; exact hi)
  rw [← hxq] at g'
  rw [show L.se.getD i2 (zE, _) = (x, q) from hxq.symm, ← hx] at hR
  have HX := xH1 hx
  have g0 : w.cell? ⟨b1, o1 + i2 * 3, none⟩ = some (.int .i64 x.free) := by have := g' 0 (by decide); simpa [semC] using this
  have g1 : w.cell? ⟨b1, o1 + i2 * 3 + 1, none⟩ = some (.int .i64 x.limit) := by have := g' 1 (by decide); simpa [semC] using this
  have g2 : w.cell? ⟨b1, o1 + i2 * 3 + 2, none⟩ = some (.slice q.a q.n q.c) := by have := g' 2 (by decide); simpa [semC] using this
  have Q0 := xH1 ((show SlR [] w q (zH x.queue) x.queue.length from hR).rd)
  have QL0 := xH1 (show SlR [] w q (zH x.queue) x.queue.length from hR).len
  have QC0 := xH1 (show SlR [] w q (zH x.queue) x.queue.length from hR).cap
  clear g' hx hxq hR
  have HOK := xH1 (HF.out.se i2 hi)
  rw [← HX.out] at HOK
  have j0 : (0 : Int) ≤ (i2 : Int) := by omega
  have j1 : (i2 : Int) < (v.se.n : Int) := by rw [HS.out.se.len]; omega
  have EA := xH1 ea
  replace g0 := zd h.fr.bel g0
  replace g1 := zd h.fr.bel g1
  replace g2 := zd h.fr.bel g2
  clear hi ea on0 on1
  have hperm := zfQ HOV.out (.inr rfl)
  dsimp only at hperm
  rw [show ((i2 : Nat) : Int).toNat = i2 from rfl, ← HOK.out.2] at hperm
  have HPM : Hid (1 ≤ ar ∧ ar ≤ 9) := xH1 (by have := HOK.out.1.1; omega)
  obtain ⟨bb, hbb⟩ : ∃ b, b = (zbX x ar).isSome := ⟨_, rfl⟩
  have HBB := xH1 hbb
  clear hperm hbb
  go_upto_region 15 with fail
  go_wp2_with fail
  obtain ⟨u3, rfl⟩ : ∃ x, x = W := ⟨_, rfl⟩
  refine zcP 16 88 14 (by kernel_rfl) (by kernel_rfl) [isV (.pointer (some ⟨w.heap.size + 1, 2, none⟩)), isV (.slice v.se.a v.se.n v.se.c), isV (.pointer (some ⟨bo, 1, none⟩)), isV (.int .i64 i2), isV (.pointer (some ⟨b1, o1 + i2 * 3, none⟩)), isV (.agg #[.int .i64 x.free, .int .i64 x.limit, .slice q.a q.n q.c]), isV (.pointer (some ⟨bo, 2, none⟩)), isV (.int .i64 ar), fun dz uz wz => (∃ (y : SemD) (r z : SlV) (l : List Int), uz = .tuple #[.agg #[.int .i64 y.free, .int .i64 y.limit, .slice r.a r.n r.c], .slice z.a z.n z.c, .bool bb] ∧ SlN u3 wz r (zH y.queue) y.queue.length ∧ wz.ownsRow u3.heap.size 3 1 (.slice z.a z.n z.c) z.n (ints l) ∧ zbX x ar = (if bb = true then some (y, l) else none)), fun dz uz wz => (uz = (dz.getD 0 undef) ∧ ∃ (y : SemD) (r z : SlV) (l : List Int), uz = .tuple #[.agg #[.int .i64 y.free, .int .i64 y.limit, .slice r.a r.n r.c], .slice z.a z.n z.c, .bool bb]), fun dz uz wz => (uz = zV (dz.getD 0 undef) 0 ∧ ∃ (y : SemD) (r z : SlV) (l : List Int), uz = .agg #[.int .i64 y.free, .int .i64 y.limit, .slice r.a r.n r.c]), fun dz uz wz => (uz = zV (dz.getD 0 undef) 1 ∧ ∃ (y : SemD) (r z : SlV) (l : List Int), uz = .slice z.a z.n z.c), fun dz uz wz => uz = .bool bb, fun dz uz wz => (∃ (g : Nat) (ds : Array Value), uz = .pointer (some ⟨g, 0, none⟩) ∧ ds.size = 3 ∧ Blk wz g ds 88 ∧ u3.heap.size ≤ g), fun dz uz wz => (∃ (g : Nat) (y : SemD) (r z : SlV) (l : List Int), (dz.getD 0 undef) = .pointer (some ⟨g, 0, none⟩) ∧ (dz.getD 1 undef) = .agg #[.int .i64 y.free, .int .i64 y.limit, .slice r.a r.n r.c] ∧ Blk wz g #[.int .i64 y.free, .int .i64 y.limit, .slice r.a r.n r.c] 88), fun dz uz wz => uz = (dz.getD 0 undef)] ⟨pS, pS, pS, pS, pS, pS, pS, pS, fun _ _ _ _ hb ⟨y, r, z, l, e, m0, m1, m2⟩ => ⟨y, r, z, l, e, m0.below hb, zj m1 hb, m2⟩, fun _ _ _ _ _ h => h, fun _ _ _ _ _ h => h, fun _ _ _ _ _ h => h, fun _ _ _ _ _ h => h, fun _ _ _ _ hb ⟨g, ds, e, hz, h, hs⟩ => ⟨g, ds, e, hz, h.below hb, hs⟩, fun _ _ _ _ hb ⟨g, y, r, z, l, e1, e2, h⟩ => ⟨g, y, r, z, l, e1, e2, h.below hb⟩, fun _ _ _ _ _ h => h, trivial⟩ ⟨.inr (pS), .inr (pS), .inr (pS), .inr (pS), .inr (pS), .inr (pS), .inr (pS), .inr (pS), .inr (fun _ _ _ _ hT ⟨y, r, z, l, e, m0, m1, m2⟩ => ⟨y, r, z, l, e, m0.ts hT (by decide), zfU m1 hT (by decide), m2⟩), .inr (fun _ _ _ _ _ h => h), .inr (fun _ _ _ _ _ h => h), .inr (fun _ _ _ _ _ h => h), .inr (fun _ _ _ _ _ h => h), .inr (fun _ _ _ _ hT ⟨g, ds, e, hz, h, hs⟩ => ⟨g, (hT.prg g ds h).choose, e, (hT.prg g ds h).choose_spec.1.trans hz, (hT.prg g ds h).choose_spec.2, hs⟩), .inl rfl, .inr (fun _ _ _ _ _ h => h), trivial⟩ ?_ ?_
  ·simp only [List.take_succ_cons, List.take_zero]
   refine ⟨?_, ?_, ?_, ?_, ?_, ?_, ?_, ?_, ?_, ?_, ?_, ?_, ?_, ?_, ?_, ?_, trivial⟩
   all_goals (intro ρ w1 L hG hny hfr hd; obtain ⟨fc, ff⟩ := fcff hfr; have f4 : ρ (.tmp 4) = .pointer (some ⟨w.heap.size + 1, 0, none⟩) := hfr _ rfl; have f9 : ρ (.tmp 9) = .pointer (some ⟨bo, 0, none⟩) := hfr _ rfl; have F1 := h.fr.call hG; have cs := F1.c9 3 rfl; have co := F1.c3 1 rfl; have g0 := (fun _ => zd hG g0) F1; have g1 := (fun _ => zd hG g1) F1; have g2 := (fun _ => zd hG g2) F1; clear F1)
   ·exact gvT hG (by go_simp) rfl xN1
   ·obtain ⟨d0, -⟩ := hd
    have d0 : ρ (.tmp 120) = _ := d0
    exact gvT hG (by go_simp) rfl xN1
   ·exact gvT hG (by go_simp) rfl xN1
   ·obtain ⟨d0, -⟩ := hd
    have d0 : ρ (.tmp 122) = _ := d0
    exact gvT hG (by go_simp) rfl xN1
   ·obtain ⟨d0, d1, -⟩ := hd
    have d0 : ρ (.tmp 121) = _ := d0
    have d1 : ρ (.tmp 123) = _ := d1
    rw [EA.out] at d0
    exact gvT hG (by go_simp) rfl xN1
   ·obtain ⟨d0, -⟩ := hd
    have d0 : ρ (.tmp 124) = _ := d0
    exact gvT hG (by go_simp) rfl xN1
   ·exact gvT hG (by go_simp) rfl xN1
   ·obtain ⟨d0, -⟩ := hd
    have d0 : ρ (.tmp 126) = _ := d0
    exact gvT hG (by go_simp) rfl xN1
   ·obtain ⟨d0, d1, -⟩ := hd
    have d0 : ρ (.tmp 125) = _ := d0
    have d1 : ρ (.tmp 127) = _ := d1
    refine zL (by go_simp; exact ⟨⟨rfl, rfl⟩, rfl⟩) ?_
    refine (zg9 x q.a q.n q.c ar w1 QL0.out.symm ((h.fr.call hG).rd Q0.out) HOK.out.1 HPM.out).mono ?_
    rintro e w2 ⟨y, r, z, l, b, hy, rfl, hr, hz, -, hb⟩
    obtain rfl : b = bb := by rw [HBB.out, hy]; cases b <;> rfl
    exact ⟨_, rfl, zD (by decide) hb, ⟨y, r, z, l, rfl, hr.mono hG.size, zu hz hG.size, hy⟩, xN1, hG.trans (hb.mono hG.size)⟩
   ·obtain ⟨d0, -⟩ := hd
    have d0 : (∃ (y : SemD) (r z : SlV) (l : List Int), (ρ (.tmp 128)) = .tuple #[.agg #[.int .i64 y.free, .int .i64 y.limit, .slice r.a r.n r.c], .slice z.a z.n z.c, .bool bb] ∧ SlN u3 w1 r (zH y.queue) y.queue.length ∧ w1.ownsRow u3.heap.size 3 1 (.slice z.a z.n z.c) z.n (ints l) ∧ zbX x ar = (if bb = true then some (y, l) else none)) := d0
    obtain ⟨y, r, z, l, d0, -⟩ := d0
    refine zf (u := .tuple #[.agg #[.int .i64 y.free, .int .i64 y.limit, .slice r.a r.n r.c], .slice z.a z.n z.c, .bool bb]) (w' := w1) (by go_simp) ⟨zD (by decide) xB1, ⟨d0.symm, ⟨y, r, z, l, rfl⟩⟩, xN1, hG⟩
   ·obtain ⟨d0, -⟩ := hd
    have d0 : ((ρ (.tmp 119)) = (ρ (.tmp 128)) ∧ ∃ (y : SemD) (r z : SlV) (l : List Int), (ρ (.tmp 119)) = .tuple #[.agg #[.int .i64 y.free, .int .i64 y.limit, .slice r.a r.n r.c], .slice z.a z.n z.c, .bool bb]) := d0
    obtain ⟨y, r, z, l, d1⟩ := d0.2
    clear d0
    refine zf (u := .agg #[.int .i64 y.free, .int .i64 y.limit, .slice r.a r.n r.c]) (w' := w1) (by go_simp) ⟨zD (by decide) xB1, ⟨by show (.agg #[.int .i64 y.free, .int .i64 y.limit, .slice r.a r.n r.c] : Value) = zV (ρ (.tmp 119)) 0; rw [d1]; rfl, ⟨y, r, z, l, rfl⟩⟩, xN1, hG⟩
   ·obtain ⟨d0, -⟩ := hd
    have d0 : ((ρ (.tmp 119)) = (ρ (.tmp 128)) ∧ ∃ (y : SemD) (r z : SlV) (l : List Int), (ρ (.tmp 119)) = .tuple #[.agg #[.int .i64 y.free, .int .i64 y.limit, .slice r.a r.n r.c], .slice z.a z.n z.c, .bool bb]) := d0
    obtain ⟨y, r, z, l, d1⟩ := d0.2
    clear d0
    refine zf (u := .slice z.a z.n z.c) (w' := w1) (by go_simp) ⟨zD (by decide) xB1, ⟨by show (.slice z.a z.n z.c : Value) = zV (ρ (.tmp 119)) 1; rw [d1]; rfl, ⟨y, r, z, l, rfl⟩⟩, xN1, hG⟩
   ·obtain ⟨d0, -⟩ := hd
    have d0 : ((ρ (.tmp 119)) = (ρ (.tmp 128)) ∧ ∃ (y : SemD) (r z : SlV) (l : List Int), (ρ (.tmp 119)) = .tuple #[.agg #[.int .i64 y.free, .int .i64 y.limit, .slice r.a r.n r.c], .slice z.a z.n z.c, .bool bb]) := d0
    obtain ⟨y, r, z, l, d1⟩ := d0.2
    clear d0
    refine zf (u := .bool bb) (w' := w1) (by go_simp) ⟨zD (by decide) xB1, rfl, xN1, hG⟩
   ·refine zf (u := .pointer (some ⟨w1.heap.size, 0, none⟩)) (w' := w1.alloc (.cells #[.int .i64 0, .int .i64 0, .slice none 0 0] 88)) (by go_simp) ⟨zD (by decide) (xA1), ⟨_, _, rfl, rfl, Blk.new _ _ _, hG.size⟩, xN1, hG.alloc hG.size _⟩
   ·obtain ⟨d0, d1, -⟩ := hd
    have d0 : (∃ (g : Nat) (ds : Array Value), (ρ (.tmp 14)) = .pointer (some ⟨g, 0, none⟩) ∧ ds.size = 3 ∧ Blk w1 g ds 88 ∧ u3.heap.size ≤ g) := d0
    have d1 : ((ρ (.tmp 129)) = zV (ρ (.tmp 119)) 0 ∧ ∃ (y : SemD) (r z : SlV) (l : List Int), (ρ (.tmp 129)) = .agg #[.int .i64 y.free, .int .i64 y.limit, .slice r.a r.n r.c]) := d1
    obtain ⟨g, ds, e10, hz, hB, hgs⟩ := d0
    obtain ⟨c0, c1, c2, rfl⟩ := arr3 hz
    obtain ⟨y, r, z, l, d1'⟩ := d1.2
    clear d1
    have d1 := d1'
    have z0 := hB.cell 0 rfl
    have y0 := hB.fz 0
    have z1 := hB.cell 1 rfl
    have y1 := hB.fz 1
    have z2 := hB.cell 2 rfl
    have y2 := hB.fz 2
    have hst : TS 88 u3.heap.size w1 (((w1.setCell ⟨g, 0, none⟩ (.int .i64 y.free)).setCell ⟨g, 1, none⟩ (.int .i64 y.limit)).setCell ⟨g, 2, none⟩ (.slice r.a r.n r.c)) := TS.all [.int .i64 y.free, .int .i64 y.limit, .slice r.a r.n r.c] 0 hB hgs
    have hkk : Blk (((w1.setCell ⟨g, 0, none⟩ (.int .i64 y.free)).setCell ⟨g, 1, none⟩ (.int .i64 y.limit)).setCell ⟨g, 2, none⟩ (.slice r.a r.n r.c)) g #[.int .i64 y.free, .int .i64 y.limit, .slice r.a r.n r.c] 88 := (Blk.set (Blk.set (Blk.set hB 0 (.int .i64 y.free)) 1 (.int .i64 y.limit)) 2 (.slice r.a r.n r.c))
    refine zdu (w' := (((w1.setCell ⟨g, 0, none⟩ (.int .i64 y.free)).setCell ⟨g, 1, none⟩ (.int .i64 y.limit)).setCell ⟨g, 2, none⟩ (.slice r.a r.n r.c))) (by go_simp) ⟨zdm hst, ⟨g, y, r, z, l, e10, d1, hkk⟩, xN1, hG.trans hst.bel⟩
   ·obtain ⟨d0, -⟩ := hd
    have d0 : ((ρ (.tmp 130)) = zV (ρ (.tmp 119)) 1 ∧ ∃ (y : SemD) (r z : SlV) (l : List Int), (ρ (.tmp 130)) = .slice z.a z.n z.c) := d0
    obtain ⟨y, r, z, l, d1⟩ := d0.2
    clear d0
    have d0 := d1
    refine zf (u := .slice z.a z.n z.c) (w' := w1) (by go_simp) ⟨zD (by decide) xB1, d0.symm, xN1, hG⟩
  intro vs w2 hG hlen hall
  obtain ⟨xv0, xv1, xv2, xv3, xv4, xv5, xv6, xv7, xv8, xv9, xv10, xv11, xv12, xv13, xv14, xv15, rfl⟩ := ziR hlen
  clear hlen
  simp only [List.take_succ_cons, List.take_zero, List.drop_succ_cons, List.drop_zero] at hall ⊢
  obtain ⟨hv0, hv1, hv2, hv3, hv4, hv5, hv6, hv7, hv8, hv9, hv10, hv11, hv12, hv13, hv14, hv15, -⟩ := hall
  replace hv8 : (∃ (y : SemD) (r z : SlV) (l : List Int), xv8 = .tuple #[.agg #[.int .i64 y.free, .int .i64 y.limit, .slice r.a r.n r.c], .slice z.a z.n z.c, .bool bb] ∧ SlN u3 w2 r (zH y.queue) y.queue.length ∧ w2.ownsRow u3.heap.size 3 1 (.slice z.a z.n z.c) z.n (ints l) ∧ zbX x ar = (if bb = true then some (y, l) else none)) := hv8
  replace hv9 : (xv9 = xv8 ∧ ∃ (y : SemD) (r z : SlV) (l : List Int), xv9 = .tuple #[.agg #[.int .i64 y.free, .int .i64 y.limit, .slice r.a r.n r.c], .slice z.a z.n z.c, .bool bb]) := hv9
  replace hv10 : (xv10 = zV xv9 0 ∧ ∃ (y : SemD) (r z : SlV) (l : List Int), xv10 = .agg #[.int .i64 y.free, .int .i64 y.limit, .slice r.a r.n r.c]) := hv10
  replace hv11 : (xv11 = zV xv9 1 ∧ ∃ (y : SemD) (r z : SlV) (l : List Int), xv11 = .slice z.a z.n z.c) := hv11
  replace hv13 : (∃ (g : Nat) (ds : Array Value), xv13 = .pointer (some ⟨g, 0, none⟩) ∧ ds.size = 3 ∧ Blk w2 g ds 88 ∧ u3.heap.size ≤ g) := hv13
  replace hv14 : (∃ (g : Nat) (y : SemD) (r z : SlV) (l : List Int), xv13 = .pointer (some ⟨g, 0, none⟩) ∧ xv10 = .agg #[.int .i64 y.free, .int .i64 y.limit, .slice r.a r.n r.c] ∧ Blk w2 g #[.int .i64 y.free, .int .i64 y.limit, .slice r.a r.n r.c] 88) := hv14
  replace hv15 : xv15 = xv11 := hv15
  obtain rfl : xv0 = _ := hv0
  obtain rfl : xv1 = _ := hv1
  obtain rfl : xv2 = _ := hv2
  obtain rfl : xv3 = _ := hv3
  obtain rfl : xv4 = _ := hv4
  obtain rfl : xv5 = _ := hv5
  obtain rfl : xv6 = _ := hv6
  obtain rfl : xv7 = _ := hv7
  obtain rfl : xv12 = _ := hv12
  obtain ⟨y, r, z, l, rfl, hm0, hm1, hm2⟩ := hv8
  obtain ⟨rfl, -⟩ := hv9
  have he10 : xv10 = .agg #[.int .i64 y.free, .int .i64 y.limit, .slice r.a r.n r.c] := by simpa [zV] using hv10.1
  subst he10
  have he11 : xv11 = .slice z.a z.n z.c := by simpa [zV] using hv11.1
  subst he11
  subst hv15
  obtain ⟨gA1, dA1, rfl, -, -, hgA1⟩ := hv13
  obtain ⟨gA2, y2, r2, z2, l2, e1, e2, kN⟩ := hv14
  obtain rfl : gA1 = gA2 := by simpa using e1
  have e3 : (#[.int .i64 y.free, .int .i64 y.limit, .slice r.a r.n r.c] : Array Value) = #[.int .i64 y2.free, .int .i64 y2.limit, .slice r2.a r2.n r2.c] := by
   have h1 : Value.agg #[.int .i64 y.free, .int .i64 y.limit, .slice r.a r.n r.c] = .agg #[.int .i64 y2.free, .int .i64 y2.limit, .slice r2.a r2.n r2.c] := e2
   injection h1
  rw [← e3] at kN
  clear e1 e2 e3 hv10 hv11
  simp only [z9, Act.put, List.setIfInBounds_toArray, List.set_cons_succ, List.set_cons_zero]
  have hu : SlR v'.blks w2 z (ints l) l.length := zeu h hm1
  have hq : semR (zZ (.blk M (mC u v' false) 105 :: .blk bo #[.int .i64 3, .int .i64 (i2 : Int), .int .i64 ar] 44 :: sb3 w u v zC) ++ v'.blks) w2 y r := h.apart hm0
  replace h := h.call hG
  clear g0 g1 g2 hG hm0 hm1
  cases bb
  ·clear hu hq kN
   rw [if_neg (by decide)] at hm2
   have HE : Hid (zI p s j = zbl s 1) := xH1 (by
    unfold zI
    rw [← HO.out]
    show doRel p s j ⟨3, ((i2 : Nat) : Int), ar⟩ = _
    unfold doRel
    dsimp only
    rw [show ((i2 : Nat) : Int).toNat = i2 from rfl, ← HX.out, hm2])
   go_wp2_with fail
   refine (zdw (w.heap.size + 1) 1 v L s _ (h.fr.blk 3 rfl) (HS.out.below h.bel) HF.out.sm).mono ?_
   rintro e Wc ⟨v2, L2, rfl, ho, hn, hb⟩
   have HN2 := NewB.lower hn h.bel.size
   have g := Sf.gain h.fr ho hn hb
   clear ho hn hb h
   have cz := g.c9 2 rfl
   have g2 := g.set9 2 rfl (.slice v2.pl.a v2.pl.n v2.pl.c) (.slice v2.st.a v2.st.n v2.st.c) (.slice v2.se.a v2.se.n v2.se.c) (.slice v2.on.a v2.on.n v2.on.c) (.slice v2.gr.a v2.gr.n v2.gr.c) (.slice v2.ba.a v2.ba.n v2.ba.c) (.slice v2.ch.a v2.ch.n v2.ch.c) (.slice v2.sa.a v2.sa.n v2.sa.c) (.int .i64 v2.fl)
   go_wp2
   exact bodyPost_ret (v := .tuple #[.agg #[.slice v2.pl.a v2.pl.n v2.pl.c, .slice v2.st.a v2.st.n v2.st.c, .slice v2.se.a v2.se.n v2.se.c, .slice v2.on.a v2.on.n v2.on.c, .slice v2.gr.a v2.gr.n v2.gr.c, .slice v2.ba.a v2.ba.n v2.ba.c, .slice v2.ch.a v2.ch.n v2.ch.c, .slice v2.sa.a v2.sa.n v2.sa.c, .int .i64 v2.fl], .bool true]) (by simp [results, Try.results36, go_sem, g2.c9 2 rfl]) rfl ⟨v2, L2, rfl, by rw [HE.out]; exact g2.st.sub (by simp), HN2, g2.bel⟩
  rw [if_pos rfl] at hm2
  have HE : Hid (zI p s j = goAll p (goAll p (setSem s i2 y) l) [(j : Int)]) := xH1 (by
   unfold zI
   rw [← HO.out]
   show doRel p s j ⟨3, ((i2 : Nat) : Int), ar⟩ = _
   unfold doRel
   dsimp only
   rw [show ((i2 : Nat) : Int).toNat = i2 from rfl, ← HX.out, hm2]
   exact zdn p _ l [(j : Int)])
  have HTO : Hid (Told p s l) := xH1 (zjT HF.out HI.out (m := ar) (by have := HPM.out; omega) (by rw [← HX.out]; exact hm2))
  have PLB : Hid (∀ i, 0 ≤ (goAll p (setSem s i2 y) l).places.getD i 0 ∧ (goAll p (setSem s i2 y) l).places.getD i 0 ≤ 8) := xH1 (le8 (s := s) HST.out.fits (fun i => (PL8.out i).1) (fun i => (zaD l (setSem s i2 y) i).1) (fun i => by rw [HE.out]; exact (zaD [(j : Int)] _ i).1))
  clear hm2
  obtain ⟨gt, eg, -, -⟩ := zaT h.st.se (by rw [h.st.nse]; have := HI.out; omega)
  have EG := xH1 eg
  have ownP := h.st.se
  rw [show v'.se.val = .slice (some ⟨gt, 0, none⟩) v'.se.n v'.se.c by rw [← EG.out]] at ownP
  have fz0 := ownP.frozenAt (i2 * 3)
  have fz1 := ownP.frozenAt (i2 * 3 + 1)
  have fz2 := ownP.frozenAt (i2 * 3 + 2)
  obtain ⟨y0, cg0⟩ := zQ ownP (i2 * 3) (by have := HI.out; have := h.st.nse; omega)
  obtain ⟨y1, cg1⟩ := zQ ownP (i2 * 3 + 1) (by have := HI.out; have := h.st.nse; omega)
  obtain ⟨y2, cg2⟩ := zQ ownP (i2 * 3 + 2) (by have := HI.out; have := h.st.nse; omega)
  have hP := h.st.put_se (g := gt) EG.out i2 HI.out (x := y) (q := r) hq
  have hgm : gt ∈ v'.blks := StV.mem_se (by rw [EG.out]; rfl)
  have h6 := h.put hgm hP
  have hu6 := (hu.touch hP.2 (fun b hb => by obtain rfl := xS1 hb; exact hgm)).drew
  clear hP hgm hu
  have qm : World.cell? _ ⟨M, 7, none⟩ = some (.slice v'.se.a v'.se.n v'.se.c) := h.fr.cell 0 7 rfl rfl
  rw [EG.out] at qm
  have co := h.fr.c3 1 rfl
  have n0 := kN.cell 0 rfl
  have n1 := kN.cell 1 rfl
  have n2 := kN.cell 2 rfl
  have j2 : (i2 : Int) < (v'.se.n : Int) := by rw [h.st.nse]; have := HI.out; omega
  clear ownP eg
  go_wp2
  go_still_tail 9, (by kernel_rfl)
  go_upto_region 19 with fail
  obtain ⟨W3, hw, h7⟩ := h6.drew.named
  rw [← hw]
  rw [← hw] at hu6
  clear h6 h hw kN co qm hq n0 fz0 cg0 n1 fz1 cg1 n2 fz2 cg2
  go_wp2_with fail
  refine (zav w _ _ M u p v' _ _ false z.a z.n z.c l h7 HP.out HVS.out hu6 HTO.out.1 P8.out HTO.out.2 PL8.out).mono ?_
  rintro e Wt ⟨rfl, h8, -⟩
  clear h7 hu6
  have h2 := h8.alloc #[.int .i64 j] 3
  have hw : SlR (StV.blks v') (World.alloc Wt (.cells #[.int .i64 j] 3)) ⟨some ⟨Wt.heap.size, 0, none⟩, 1, 1⟩ (ints [(j : Int)]) [(j : Int)].length := ⟨rfl, Rd.of_blk (h2.fr.blk 0 rfl), .inr (fun b hb hm => by have h9 := (h8.st.from b hm).2; simp only [zi, Option.some.injEq] at hb; omega), Nat.le_refl _⟩
  go_wp2_with fail
  refine (zav w _ _ M u p v' _ _ false _ 1 1 [(j : Int)] (h2.pull 1 rfl) HP.out HVS.out hw (by simp) (by rw [zaA, zbD]; exact P8.out) (fun z hz' => by obtain rfl := xS1 hz'; exact (by have := TT.out; rw [zaA]; exact this)) PLB.out).mono ?_
  rintro e Wb ⟨rfl, h3, -⟩
  clear h2 hw h8
  have h := h3.sub (l' := .blk M (mC u v' false) 105 :: .blk bo #[.int .i64 3, .int .i64 (i2 : Int), .int .i64 ar] 44 :: sb3 w u v zC) (.cons_cons _ (.cons _ (.refl _)))
  clear h3
  obtain ⟨vv, hvv⟩ : ∃ x, x = v' := ⟨_, rfl⟩
  rw [← hvv] at h
  clear hvv
 rotate_left
 focus
  obtain ⟨on0, on1⟩ := zbO HOV.out
  rw [show zv p (4 : Int) = 3 by unfold zv; rw [if_neg (by omega), if_neg (by omega), if_pos rfl]] at on1
  dsimp only at on0 on1
  obtain ⟨i2, rfl⟩ : ∃ z : Nat, on = z := ⟨on.toNat, by omega⟩
  have hi : i2 < s.onces.length := by rw [HF.out.non]; omega
  have HI := xH1 hi
  obtain ⟨b1, o1, ea, g'⟩ := HS.out.on.rd.flat zd1 zdf (by rw [HS.out.inn.on.len]; have := hi; omega) (by decide)
  obtain ⟨⟨x, q⟩, hxq⟩ : ∃ y, y = L.on.getD i2 zdf := ⟨_, rfl⟩
  have hx : x = s.onces.getD i2 zp := by have := HS.out.inn.on.fst zp nilV i2; rw [← this]; exact congrArg Prod.fst hxq
  have hR := HS.out.inn.on.at zp nilV (i := i2) hi
  replace g' := g' i2 (by rw [HS.out.inn.on.len]; exact hi)
  rw [← hxq] at g'
  rw [show L.on.getD i2 (zp, _) = (x, q) from hxq.symm, ← hx] at hR
  have HX := xH1 hx
  have g0 : w.cell? ⟨b1, o1 + i2 * 4, none⟩ = some (.int .i64 x.state) := by have := g' 0 (by decide); simpa [zaZ] using this
  have g1 : w.cell? ⟨b1, o1 + i2 * 4 + 1, none⟩ = some (.int .i64 x.owner) := by have := g' 1 (by decide); simpa [zaZ] using this
  have g2 : w.cell? ⟨b1, o1 + i2 * 4 + 2, none⟩ = some (.int .i64 x.value) := by have := g' 2 (by decide); simpa [zaZ] using this
  have g3 : w.cell? ⟨b1, o1 + i2 * 4 + 3, none⟩ = some (.slice q.a q.n q.c) := by have := g' 3 (by decide); simpa [zaZ] using this
  have Q0 := xH1 ((show SlR [] w q (ints x.waits) x.waits.length from hR).rd)
  have QL0 := xH1 (show SlR [] w q (ints x.waits) x.waits.length from hR).len
  have QC0 := xH1 (show SlR [] w q (ints x.waits) x.waits.length from hR).cap
  clear g' hx hxq hR
  have HOK := xH1 (HF.out.on i2 hi)
  rw [← HX.out] at HOK
  have j0 : (0 : Int) ≤ (i2 : Int) := by omega
  have j1 : (i2 : Int) < (v.on.n : Int) := by rw [HS.out.on.len]; omega
  have EA := xH1 ea
  replace g0 := zd h.fr.bel g0
  replace g1 := zd h.fr.bel g1
  replace g2 := zd h.fr.bel g2
  replace g3 := zd h.fr.bel g3
  clear hi ea on0 on1
  have hval := zfK HOV.out (.inr (.inl rfl))
  dsimp only at hval
  have HV := xH1 hval
  have hst := HT.out.st
  rw [← HO.out] at hst
  dsimp only at hst
  obtain ⟨bs, os, es, gs⟩ := HS.out.st.rd.int (by have := P8.out; omega)
  replace gs := gs j (by have := TT.out; have := P8.out; omega)
  obtain ⟨sx, esx⟩ : ∃ x, x = s.status.getD j 0 := ⟨_, rfl⟩
  rw [← esx] at gs
  have ESX := xH1 esx
  replace gs := zd h.fr.bel gs
  rw [show ((j : Nat) : Int).toNat = j from rfl, ← esx] at hst
  have k3 : (j : Int) < (v.st.n : Int) := by rw [HS.out.st.len]; have := TT.out; have := P8.out; omega
  have cs := h.fr.c9 3 rfl
  rw [es, EA.out] at cs
  clear hval es esx
  go_upto_region 22 with fail
  by_cases h2 : sx = 2
  focus
   subst h2
   have how := zkr ((hst.resolve_left (fun h => absurd h.1 (by decide))).2.2)
   rw [← HX.out] at how
   have hok := HOK.out
   have HXX := xH1 HX.out
   clear HX HOK hst k3
   obtain ⟨x0, x1, x2, ws⟩ := x
   dsimp only at how
   obtain ⟨-, rfl, rfl⟩ := how
   have hv0 : x2 = 0 := by
    rcases hok with h | h | h
    ·exact absurd h.1 (by simp)
    ·exact h.2.2.1
    ·exact absurd h.1 (by simp)
   subst hv0
   have HOK := xH1 hok
   clear hok
   dsimp only at g0 g1 g2 g3 Q0 QL0
   have HTO : Hid (Told p s ws) := xH1 (by have := zjg HF.out HI.out; rw [← HXX.out] at this; exact this)
   go_upto_region 23 with fail
   clear cs gs
   go_wp2_with fail
   obtain ⟨u3, rfl⟩ : ∃ x, x = W := ⟨_, rfl⟩
   refine zcP 17 98 15 (by kernel_rfl) (by kernel_rfl) [isV (.pointer (some ⟨w.heap.size + 1, 3, none⟩)), isV (.slice v.on.a v.on.n v.on.c), isV (.pointer (some ⟨bo, 1, none⟩)), isV (.int .i64 i2), isV (.pointer (some ⟨b1, o1 + i2 * 4, none⟩)), isV (.agg #[.int .i64 1, .int .i64 j, .int .i64 0, .slice q.a q.n q.c]), isV (.int .i64 j), isV (.pointer (some ⟨bo, 2, none⟩)), isV (.int .i64 ar), fun dz uz wz => (∃ (z : SlV), uz = .tuple #[.agg #[.int .i64 2, .int .i64 j, .int .i64 ar, .slice none 0 0], .slice z.a z.n z.c, .bool true] ∧ wz.ownsRow u3.heap.size 3 1 (.slice z.a z.n z.c) z.n (ints ws)), fun dz uz wz => (uz = (dz.getD 0 undef) ∧ ∃ (z : SlV), uz = .tuple #[.agg #[.int .i64 2, .int .i64 j, .int .i64 ar, .slice none 0 0], .slice z.a z.n z.c, .bool true]), fun dz uz wz => (uz = zV (dz.getD 0 undef) 0 ∧ ∃ (z : SlV), uz = .agg #[.int .i64 2, .int .i64 j, .int .i64 ar, .slice none 0 0]), fun dz uz wz => (uz = zV (dz.getD 0 undef) 1 ∧ ∃ (z : SlV), uz = .slice z.a z.n z.c), fun dz uz wz => uz = .bool true, fun dz uz wz => (∃ (g : Nat) (ds : Array Value), uz = .pointer (some ⟨g, 0, none⟩) ∧ ds.size = 4 ∧ Blk wz g ds 98 ∧ u3.heap.size ≤ g), fun dz uz wz => (∃ (g : Nat) (z : SlV), (dz.getD 0 undef) = .pointer (some ⟨g, 0, none⟩) ∧ (dz.getD 1 undef) = .agg #[.int .i64 2, .int .i64 j, .int .i64 ar, .slice none 0 0] ∧ Blk wz g #[.int .i64 2, .int .i64 j, .int .i64 ar, .slice none 0 0] 98), fun dz uz wz => uz = (dz.getD 0 undef)] ⟨pS, pS, pS, pS, pS, pS, pS, pS, pS, fun _ _ _ _ hb ⟨z, e, m0⟩ => ⟨z, e, zj m0 hb⟩, fun _ _ _ _ _ h => h, fun _ _ _ _ _ h => h, fun _ _ _ _ _ h => h, fun _ _ _ _ _ h => h, fun _ _ _ _ hb ⟨g, ds, e, hz, h, hs⟩ => ⟨g, ds, e, hz, h.below hb, hs⟩, fun _ _ _ _ hb ⟨g, z, e1, e2, h⟩ => ⟨g, z, e1, e2, h.below hb⟩, fun _ _ _ _ _ h => h, trivial⟩ ⟨.inr (pS), .inr (pS), .inr (pS), .inr (pS), .inr (pS), .inr (pS), .inr (pS), .inr (pS), .inr (pS), .inr (fun _ _ _ _ hT ⟨z, e, m0⟩ => ⟨z, e, zfU m0 hT (by decide)⟩), .inr (fun _ _ _ _ _ h => h), .inr (fun _ _ _ _ _ h => h), .inr (fun _ _ _ _ _ h => h), .inr (fun _ _ _ _ _ h => h), .inr (fun _ _ _ _ hT ⟨g, ds, e, hz, h, hs⟩ => ⟨g, (hT.prg g ds h).choose, e, (hT.prg g ds h).choose_spec.1.trans hz, (hT.prg g ds h).choose_spec.2, hs⟩), .inl rfl, .inr (fun _ _ _ _ _ h => h), trivial⟩ ?_ ?_
   ·simp only [List.take_succ_cons, List.take_zero]
    refine ⟨?_, ?_, ?_, ?_, ?_, ?_, ?_, ?_, ?_, ?_, ?_, ?_, ?_, ?_, ?_, ?_, ?_, trivial⟩
    all_goals (intro ρ w1 L hG hny hfr hd; obtain ⟨fc, ff⟩ := fcff hfr; have f4 : ρ (.tmp 4) = .pointer (some ⟨w.heap.size + 1, 0, none⟩) := hfr _ rfl; have f9 : ρ (.tmp 9) = .pointer (some ⟨bo, 0, none⟩) := hfr _ rfl; have f2 : ρ (.tmp 2) = .int .i64 j := hfr _ rfl; have F1 := h.fr.call hG; have cs := F1.c9 3 rfl; have co := F1.c3 1 rfl; have g0 := (fun _ => zd hG g0) F1; have g1 := (fun _ => zd hG g1) F1; have g2 := (fun _ => zd hG g2) F1; have g3 := (fun _ => zd hG g3) F1; clear F1)
    ·exact gvT hG (by go_simp) rfl xN1
    ·obtain ⟨d0, -⟩ := hd
     have d0 : ρ (.tmp 163) = _ := d0
     exact gvT hG (by go_simp) rfl xN1
    ·exact gvT hG (by go_simp) rfl xN1
    ·obtain ⟨d0, -⟩ := hd
     have d0 : ρ (.tmp 165) = _ := d0
     exact gvT hG (by go_simp) rfl xN1
    ·obtain ⟨d0, d1, -⟩ := hd
     have d0 : ρ (.tmp 164) = _ := d0
     have d1 : ρ (.tmp 166) = _ := d1
     rw [EA.out] at d0
     exact gvT hG (by go_simp) rfl xN1
    ·obtain ⟨d0, -⟩ := hd
     have d0 : ρ (.tmp 167) = _ := d0
     exact gvT hG (by go_simp) rfl xN1
    ·exact gvT hG (by go_simp) rfl xN1
    ·exact gvT hG (by go_simp) rfl xN1
    ·obtain ⟨d0, -⟩ := hd
     have d0 : ρ (.tmp 170) = _ := d0
     exact gvT hG (by go_simp) rfl xN1
    ·obtain ⟨d0, d1, d2, -⟩ := hd
     have d0 : ρ (.tmp 168) = _ := d0
     have d1 : ρ (.tmp 169) = _ := d1
     have d2 : ρ (.tmp 171) = _ := d2
     refine zL (by go_simp; exact ⟨⟨rfl, rfl⟩, rfl⟩) ?_
     refine (zfW ws q.a q.n q.c j ar w1 QL0.out.symm ((h.fr.call hG).rd Q0.out) HOK.out HV.out).mono ?_
     rintro e w2 ⟨z, rfl, hz, hb⟩
     exact ⟨_, rfl, zD (by decide) hb, ⟨z, rfl, zu hz hG.size⟩, xN1, hG.trans (hb.mono hG.size)⟩
    ·obtain ⟨d0, -⟩ := hd
     have d0 : (∃ (z : SlV), (ρ (.tmp 172)) = .tuple #[.agg #[.int .i64 2, .int .i64 j, .int .i64 ar, .slice none 0 0], .slice z.a z.n z.c, .bool true] ∧ w1.ownsRow u3.heap.size 3 1 (.slice z.a z.n z.c) z.n (ints ws)) := d0
     obtain ⟨z, d0, -⟩ := d0
     refine zf (u := .tuple #[.agg #[.int .i64 2, .int .i64 j, .int .i64 ar, .slice none 0 0], .slice z.a z.n z.c, .bool true]) (w' := w1) (by go_simp) ⟨zD (by decide) xB1, ⟨d0.symm, ⟨z, rfl⟩⟩, xN1, hG⟩
    ·obtain ⟨d0, -⟩ := hd
     have d0 : ((ρ (.tmp 162)) = (ρ (.tmp 172)) ∧ ∃ (z : SlV), (ρ (.tmp 162)) = .tuple #[.agg #[.int .i64 2, .int .i64 j, .int .i64 ar, .slice none 0 0], .slice z.a z.n z.c, .bool true]) := d0
     obtain ⟨z, d1⟩ := d0.2
     clear d0
     refine zf (u := .agg #[.int .i64 2, .int .i64 j, .int .i64 ar, .slice none 0 0]) (w' := w1) (by go_simp) ⟨zD (by decide) xB1, ⟨by show (.agg #[.int .i64 2, .int .i64 j, .int .i64 ar, .slice none 0 0] : Value) = zV (ρ (.tmp 162)) 0; rw [d1]; rfl, ⟨z, rfl⟩⟩, xN1, hG⟩
    ·obtain ⟨d0, -⟩ := hd
     have d0 : ((ρ (.tmp 162)) = (ρ (.tmp 172)) ∧ ∃ (z : SlV), (ρ (.tmp 162)) = .tuple #[.agg #[.int .i64 2, .int .i64 j, .int .i64 ar, .slice none 0 0], .slice z.a z.n z.c, .bool true]) := d0
     obtain ⟨z, d1⟩ := d0.2
     clear d0
     refine zf (u := .slice z.a z.n z.c) (w' := w1) (by go_simp) ⟨zD (by decide) xB1, ⟨by show (.slice z.a z.n z.c : Value) = zV (ρ (.tmp 162)) 1; rw [d1]; rfl, ⟨z, rfl⟩⟩, xN1, hG⟩
    ·obtain ⟨d0, -⟩ := hd
     have d0 : ((ρ (.tmp 162)) = (ρ (.tmp 172)) ∧ ∃ (z : SlV), (ρ (.tmp 162)) = .tuple #[.agg #[.int .i64 2, .int .i64 j, .int .i64 ar, .slice none 0 0], .slice z.a z.n z.c, .bool true]) := d0
     obtain ⟨z, d1⟩ := d0.2
     clear d0
     refine zf (u := .bool true) (w' := w1) (by go_simp) ⟨zD (by decide) xB1, rfl, xN1, hG⟩
    ·refine zf (u := .pointer (some ⟨w1.heap.size, 0, none⟩)) (w' := w1.alloc (.cells #[.int .i64 0, .int .i64 0, .int .i64 0, .slice none 0 0] 98)) (by go_simp) ⟨zD (by decide) (xA1), ⟨_, _, rfl, rfl, Blk.new _ _ _, hG.size⟩, xN1, hG.alloc hG.size _⟩
    ·obtain ⟨d0, d1, -⟩ := hd
     have d0 : (∃ (g : Nat) (ds : Array Value), (ρ (.tmp 17)) = .pointer (some ⟨g, 0, none⟩) ∧ ds.size = 4 ∧ Blk w1 g ds 98 ∧ u3.heap.size ≤ g) := d0
     have d1 : ((ρ (.tmp 173)) = zV (ρ (.tmp 162)) 0 ∧ ∃ (z : SlV), (ρ (.tmp 173)) = .agg #[.int .i64 2, .int .i64 j, .int .i64 ar, .slice none 0 0]) := d1
     obtain ⟨g, ds, e10, hz, hB, hgs⟩ := d0
     obtain ⟨c0, c1, c2, c3, rfl⟩ := arr4 hz
     obtain ⟨z, d1'⟩ := d1.2
     clear d1
     have d1 := d1'
     have z0 := hB.cell 0 rfl
     have y0 := hB.fz 0
     have z1 := hB.cell 1 rfl
     have y1 := hB.fz 1
     have z2 := hB.cell 2 rfl
     have y2 := hB.fz 2
     have z3 := hB.cell 3 rfl
     have y3 := hB.fz 3
     have hst : TS 98 u3.heap.size w1 ((((w1.setCell ⟨g, 0, none⟩ (.int .i64 2)).setCell ⟨g, 1, none⟩ (.int .i64 j)).setCell ⟨g, 2, none⟩ (.int .i64 ar)).setCell ⟨g, 3, none⟩ (.slice none 0 0)) := TS.all [.int .i64 2, .int .i64 j, .int .i64 ar, .slice none 0 0] 0 hB hgs
     have hkk : Blk ((((w1.setCell ⟨g, 0, none⟩ (.int .i64 2)).setCell ⟨g, 1, none⟩ (.int .i64 j)).setCell ⟨g, 2, none⟩ (.int .i64 ar)).setCell ⟨g, 3, none⟩ (.slice none 0 0)) g #[.int .i64 2, .int .i64 j, .int .i64 ar, .slice none 0 0] 98 := (Blk.set (Blk.set (Blk.set (Blk.set hB 0 (.int .i64 2)) 1 (.int .i64 j)) 2 (.int .i64 ar)) 3 (.slice none 0 0))
     refine zdu (w' := ((((w1.setCell ⟨g, 0, none⟩ (.int .i64 2)).setCell ⟨g, 1, none⟩ (.int .i64 j)).setCell ⟨g, 2, none⟩ (.int .i64 ar)).setCell ⟨g, 3, none⟩ (.slice none 0 0))) (by go_simp) ⟨zdm hst, ⟨g, z, e10, d1, hkk⟩, xN1, hG.trans hst.bel⟩
    ·obtain ⟨d0, -⟩ := hd
     have d0 : ((ρ (.tmp 174)) = zV (ρ (.tmp 162)) 1 ∧ ∃ (z : SlV), (ρ (.tmp 174)) = .slice z.a z.n z.c) := d0
     obtain ⟨z, d1⟩ := d0.2
     clear d0
     have d0 := d1
     refine zf (u := .slice z.a z.n z.c) (w' := w1) (by go_simp) ⟨zD (by decide) xB1, d0.symm, xN1, hG⟩
   intro vs w2 hG hlen hall
   obtain ⟨xv0, xv1, xv2, xv3, xv4, xv5, xv6, xv7, xv8, xv9, xv10, xv11, xv12, xv13, xv14, xv15, xv16, rfl⟩ := ziP hlen
   clear hlen
   simp only [List.take_succ_cons, List.take_zero, List.drop_succ_cons, List.drop_zero] at hall ⊢
   obtain ⟨hv0, hv1, hv2, hv3, hv4, hv5, hv6, hv7, hv8, hv9, hv10, hv11, hv12, hv13, hv14, hv15, hv16, -⟩ := hall
   replace hv9 : (∃ (z : SlV), xv9 = .tuple #[.agg #[.int .i64 2, .int .i64 j, .int .i64 ar, .slice none 0 0], .slice z.a z.n z.c, .bool true] ∧ w2.ownsRow u3.heap.size 3 1 (.slice z.a z.n z.c) z.n (ints ws)) := hv9
   replace hv10 : (xv10 = xv9 ∧ ∃ (z : SlV), xv10 = .tuple #[.agg #[.int .i64 2, .int .i64 j, .int .i64 ar, .slice none 0 0], .slice z.a z.n z.c, .bool true]) := hv10
   replace hv11 : (xv11 = zV xv10 0 ∧ ∃ (z : SlV), xv11 = .agg #[.int .i64 2, .int .i64 j, .int .i64 ar, .slice none 0 0]) := hv11
   replace hv12 : (xv12 = zV xv10 1 ∧ ∃ (z : SlV), xv12 = .slice z.a z.n z.c) := hv12
   replace hv14 : (∃ (g : Nat) (ds : Array Value), xv14 = .pointer (some ⟨g, 0, none⟩) ∧ ds.size = 4 ∧ Blk w2 g ds 98 ∧ u3.heap.size ≤ g) := hv14
   replace hv15 : (∃ (g : Nat) (z : SlV), xv14 = .pointer (some ⟨g, 0, none⟩) ∧ xv11 = .agg #[.int .i64 2, .int .i64 j, .int .i64 ar, .slice none 0 0] ∧ Blk w2 g #[.int .i64 2, .int .i64 j, .int .i64 ar, .slice none 0 0] 98) := hv15
   replace hv16 : xv16 = xv12 := hv16
   obtain rfl : xv0 = _ := hv0
   obtain rfl : xv1 = _ := hv1
   obtain rfl : xv2 = _ := hv2
   obtain rfl : xv3 = _ := hv3
   obtain rfl : xv4 = _ := hv4
   obtain rfl : xv5 = _ := hv5
   obtain rfl : xv6 = _ := hv6
   obtain rfl : xv7 = _ := hv7
   obtain rfl : xv8 = _ := hv8
   obtain rfl : xv13 = _ := hv13
   obtain ⟨z, rfl, hm0⟩ := hv9
   obtain ⟨rfl, -⟩ := hv10
   have he11 : xv11 = .agg #[.int .i64 2, .int .i64 j, .int .i64 ar, .slice none 0 0] := by simpa [zV] using hv11.1
   subst he11
   have he12 : xv12 = .slice z.a z.n z.c := by simpa [zV] using hv12.1
   subst he12
   subst hv16
   obtain ⟨gA1, dA1, rfl, -, -, hgA1⟩ := hv14
   obtain ⟨gA2, z2, e1, e2, kN⟩ := hv15
   obtain rfl : gA1 = gA2 := by simpa using e1
   have e3 : (#[.int .i64 2, .int .i64 j, .int .i64 ar, .slice none 0 0] : Array Value) = #[.int .i64 2, .int .i64 j, .int .i64 ar, .slice none 0 0] := by
    have h1 : Value.agg #[.int .i64 2, .int .i64 j, .int .i64 ar, .slice none 0 0] = .agg #[.int .i64 2, .int .i64 j, .int .i64 ar, .slice none 0 0] := e2
    injection h1
   rw [← e3] at kN
   clear e1 e2 e3 hv11 hv12
   simp only [z9, Act.put, List.setIfInBounds_toArray, List.set_cons_succ, List.set_cons_zero]
   have hu : SlR v'.blks w2 z (ints ws) ws.length := zeu h hm0
   have hq : zfj (zZ (.blk M (mC u v' false) 105 :: .blk bo #[.int .i64 4, .int .i64 (i2 : Int), .int .i64 ar] 44 :: sb3 w u v zC) ++ v'.blks) w2 ⟨2, (j : Int), ar, []⟩ nilV := SlR.nil _ _
   replace h := h.call hG
   clear g0 g1 g2 g3 hG hm0
   have HE : Hid (zI p s j = goAll p (goAll p (setOnce s i2 ⟨2, (j : Int), ar, []⟩) ws) [(j : Int)]) := xH1 (by
    unfold zI
    rw [← HO.out]
    show doOnce p s j ⟨4, ((i2 : Nat) : Int), ar⟩ = _
    unfold doOnce
    dsimp only
    rw [show ((i2 : Nat) : Int).toNat = i2 from rfl, show ((j : Nat) : Int).toNat = j from rfl, ← ESX.out, if_pos rfl, ← HXX.out]
    exact zdn p _ ws [(j : Int)])
   have PLB : Hid (∀ i, 0 ≤ (goAll p (setOnce s i2 ⟨2, (j : Int), ar, []⟩) ws).places.getD i 0 ∧ (goAll p (setOnce s i2 ⟨2, (j : Int), ar, []⟩) ws).places.getD i 0 ≤ 8) := xH1 (le8 (s := s) HST.out.fits (fun i => (PL8.out i).1) (fun i => (zaD ws (setOnce s i2 ⟨2, (j : Int), ar, []⟩) i).1) (fun i => by rw [HE.out]; exact (zaD [(j : Int)] _ i).1))
   obtain ⟨gt, eg, -, -⟩ := zaT h.st.on (by rw [h.st.non]; have := HI.out; omega)
   have EG := xH1 eg
   have ownP := h.st.on
   rw [show v'.on.val = .slice (some ⟨gt, 0, none⟩) v'.on.n v'.on.c by rw [← EG.out]] at ownP
   have fz0 := ownP.frozenAt (i2 * 4)
   have fz1 := ownP.frozenAt (i2 * 4 + 1)
   have fz2 := ownP.frozenAt (i2 * 4 + 2)
   have fz3 := ownP.frozenAt (i2 * 4 + 3)
   obtain ⟨y0, cg0⟩ := zQ ownP (i2 * 4) (by have := HI.out; have := h.st.non; omega)
   obtain ⟨y1, cg1⟩ := zQ ownP (i2 * 4 + 1) (by have := HI.out; have := h.st.non; omega)
   obtain ⟨y2, cg2⟩ := zQ ownP (i2 * 4 + 2) (by have := HI.out; have := h.st.non; omega)
   obtain ⟨y3, cg3⟩ := zQ ownP (i2 * 4 + 3) (by have := HI.out; have := h.st.non; omega)
   have hP := h.st.put_on (g := gt) EG.out i2 HI.out (x := ⟨2, (j : Int), ar, []⟩) (q := nilV) hq
   have hgm : gt ∈ v'.blks := StV.mem_on (by rw [EG.out]; rfl)
   have h6 := h.put hgm hP
   have hu6 := (hu.touch hP.2 (fun b hb => by obtain rfl := xS1 hb; exact hgm)).drew
   rw [show nilV.val = .slice none 0 0 from rfl] at h6 hu6
   clear hP hgm hu
   have qm : World.cell? _ ⟨M, 8, none⟩ = some (.slice v'.on.a v'.on.n v'.on.c) := h.fr.cell 0 8 rfl rfl
   rw [EG.out] at qm
   have co := h.fr.c3 1 rfl
   have n0 := kN.cell 0 rfl
   have n1 := kN.cell 1 rfl
   have n2 := kN.cell 2 rfl
   have n3 := kN.cell 3 rfl
   have j2 : (i2 : Int) < (v'.on.n : Int) := by rw [h.st.non]; have := HI.out; omega
   clear ownP eg
   go_wp2
   go_still_tail 9, (by kernel_rfl)
   go_upto_region 25 with fail
   obtain ⟨W3, hw, h7⟩ := h6.drew.named
   rw [← hw]
   rw [← hw] at hu6
   clear h6 h hw kN co qm hq n0 fz0 cg0 n1 fz1 cg1 n2 fz2 cg2 n3 fz3 cg3
   go_wp2_with fail
   refine (zav w _ _ M u p v' _ _ false z.a z.n z.c ws h7 HP.out HVS.out hu6 HTO.out.1 P8.out HTO.out.2 PL8.out).mono ?_
   rintro e Wt ⟨rfl, h8, -⟩
   clear h7 hu6
   have h2 := h8.alloc #[.int .i64 j] 3
   have hw : SlR (StV.blks v') (World.alloc Wt (.cells #[.int .i64 j] 3)) ⟨some ⟨Wt.heap.size, 0, none⟩, 1, 1⟩ (ints [(j : Int)]) [(j : Int)].length := ⟨rfl, Rd.of_blk (h2.fr.blk 0 rfl), .inr (fun b hb hm => by have h9 := (h8.st.from b hm).2; simp only [zi, Option.some.injEq] at hb; omega), Nat.le_refl _⟩
   go_wp2_with fail
   refine (zav w _ _ M u p v' _ _ false _ 1 1 [(j : Int)] (h2.pull 1 rfl) HP.out HVS.out hw (by simp) (by rw [zaA, zbD]; exact P8.out) (fun z hz' => by obtain rfl := xS1 hz'; exact (by have := TT.out; rw [zaA]; exact this)) PLB.out).mono ?_
   rintro e Wb ⟨rfl, h3, -⟩
   clear h2 hw h8
   have h := h3.sub (l' := .blk M (mC u v' false) 105 :: .blk bo #[.int .i64 4, .int .i64 (i2 : Int), .int .i64 ar] 44 :: sb3 w u v zC) (.cons_cons _ (.cons _ (.refl _)))
   clear h3
   obtain ⟨vv, hvv⟩ : ∃ x, x = v' := ⟨_, rfl⟩
   rw [← hvv] at h
   clear hvv
  rotate_left
  focus
   have hno : (j : Int) ∉ oT s := by
    rcases hst with h | h
    ·exact h.2
    ·exact absurd h.1 h2
   have HNO : Hid (x.state = 1 → (j : Int) ≠ x.owner ∧ (j : Int) ∉ x.waits) := xH1 (by have := zjt HI.out HT.out.ne hno; rw [← HX.out] at this; exact this)
   have N2 := xH1 h2
   clear hst hno
   go_upto_region 27 with fail
   clear gs cs h2 k3
   have cs := h.fr.c9 3 rfl
   have co := h.fr.c3 1 rfl
   rw [EA.out] at cs
   go_wp2_with fail
   refine (zgl x q.a q.n q.c j _ QL0.out.symm (h.fr.rd Q0.out) HOK.out T6.out HNO.out).mono ?_
   rintro e w2 ⟨y, r, hy, rfl, hr, hb⟩
   have bA : Below w2.heap.size w2 (Go.World.alloc w2 (.cells #[.int .i64 y.state, .int .i64 y.owner, .int .i64 y.value, .slice r.a r.n r.c] 98)) := xA1
   have HY := xH1 hy
   clear hy
   have hq := h.apart (hr.below bA)
   have kN : Blk (Go.World.alloc w2 (.cells #[.int .i64 y.state, .int .i64 y.owner, .int .i64 y.value, .slice r.a r.n r.c] 98)) w2.heap.size #[.int .i64 y.state, .int .i64 y.owner, .int .i64 y.value, .slice r.a r.n r.c] 98 := Blk.new _ _ _
   replace h := (h.call hb).call bA
   clear cs co g0 g1 g2 g3 hb bA hr
   go_upto_region 28 with fail
   obtain ⟨WA, hWA⟩ : ∃ x, x = (Go.World.alloc w2 (.cells #[.int .i64 y.state, .int .i64 y.owner, .int .i64 y.value, .slice r.a r.n r.c] 98)) := ⟨_, rfl⟩
   rw [← hWA] at h kN hq ⊢
   clear hWA
   obtain ⟨gt, eg, -, -⟩ := zaT h.st.on (by rw [h.st.non]; have := HI.out; omega)
   have EG := xH1 eg
   have ownP := h.st.on
   rw [show v'.on.val = .slice (some ⟨gt, 0, none⟩) v'.on.n v'.on.c by rw [← EG.out]] at ownP
   have fz0 := ownP.frozenAt (i2 * 4)
   have fz1 := ownP.frozenAt (i2 * 4 + 1)
   have fz2 := ownP.frozenAt (i2 * 4 + 2)
   have fz3 := ownP.frozenAt (i2 * 4 + 3)
   obtain ⟨y0, cg0⟩ := zQ ownP (i2 * 4) (by have := HI.out; have := h.st.non; omega)
   obtain ⟨y1, cg1⟩ := zQ ownP (i2 * 4 + 1) (by have := HI.out; have := h.st.non; omega)
   obtain ⟨y2, cg2⟩ := zQ ownP (i2 * 4 + 2) (by have := HI.out; have := h.st.non; omega)
   obtain ⟨y3, cg3⟩ := zQ ownP (i2 * 4 + 3) (by have := HI.out; have := h.st.non; omega)
   have hP := h.st.put_on (g := gt) EG.out i2 HI.out (x := y) (q := r) hq
   have hgm : gt ∈ v'.blks := StV.mem_on (by rw [EG.out]; rfl)
   have h6 := h.put hgm hP
   clear hP hgm
   have qm : World.cell? _ ⟨M, 8, none⟩ = some (.slice v'.on.a v'.on.n v'.on.c) := h.fr.cell 0 8 rfl rfl
   rw [EG.out] at qm
   have co := h.fr.c3 1 rfl
   have n0 := kN.cell 0 rfl
   have n1 := kN.cell 1 rfl
   have n2 := kN.cell 2 rfl
   have n3 := kN.cell 3 rfl
   have j2 : (i2 : Int) < (v'.on.n : Int) := by rw [h.st.non]; have := HI.out; omega
   clear ownP eg
   go_wp2
   go_still_tail 9, (by kernel_rfl)
   go_upto_region 29 with fail
   obtain ⟨W3, hw, h7⟩ := h6.drew.named
   rw [← hw]
   clear h6 h hw kN co qm hq n0 fz0 cg0 n1 fz1 cg1 n2 fz2 cg2 n3 fz3 cg3
   have hst3 : x.state = 0 ∨ x.state = 1 ∨ x.state = 2 := by
    rcases HOK.out with h | h | h
    ·exact .inl h.1
    ·exact .inr (.inl h.1)
    ·exact .inr (.inr h.1)
   obtain ⟨sq, hsq⟩ : ∃ z, z = x.state := ⟨_, rfl⟩
   rw [← hsq] at hst3 ⊢
   have HSQ := xH1 hsq
   clear hsq
   rcases hst3 with rfl | rfl | rfl
   focus
    have HE : Hid (zI p s j = zab (setOnce s i2 y) j 2) := xH1 (by
     unfold zI
     rw [← HO.out]
     show doOnce p s j ⟨4, ((i2 : Nat) : Int), ar⟩ = _
     unfold doOnce
     dsimp only
     rw [show ((i2 : Nat) : Int).toNat = i2 from rfl, show ((j : Nat) : Int).toNat = j from rfl, ← ESX.out, if_neg N2.out, ← HX.out, if_pos HSQ.out.symm, ← HY.out])
    obtain ⟨gs, es, -, -⟩ := zaT h7.st.st (by rw [h7.st.nst]; have := P8.out; show 0 < s.status.length; omega)
    have m6 : W3.cell? ⟨M, 6, none⟩ = some (.slice v'.st.a v'.st.n v'.st.c) := h7.fr.cell 0 6 rfl rfl
    rw [es] at m6
    have q1 := h7.stAt es (j : Int) (by have := TT.out; have := P8.out; show j < s.status.length; omega)
    have tm : (j : Int) < (v'.st.n : Int) := by rw [h7.st.nst]; have := TT.out; have := P8.out; show (j : Int) < (s.status.length : Int); omega
    have h := h7.setSt es (j : Int) 2
    rw [show ((j : Nat) : Int).toNat = j from rfl] at h q1
    clear es h7
    go_upto_region 80 with fail
    obtain ⟨W4, hw, h8⟩ := h.named
    rw [← hw]
    clear hw h m6 q1 tm
    have h := h8
    clear h8
    obtain ⟨vv, hvv⟩ : ∃ x, x = v' := ⟨_, rfl⟩
    rw [← hvv] at h
    clear hvv
   rotate_left
   focus
    have HE : Hid (zI p s j = zab (setOnce s i2 y) j 1) := xH1 (by
     unfold zI
     rw [← HO.out]
     show doOnce p s j ⟨4, ((i2 : Nat) : Int), ar⟩ = _
     unfold doOnce
     dsimp only
     rw [show ((i2 : Nat) : Int).toNat = i2 from rfl, show ((j : Nat) : Int).toNat = j from rfl, ← ESX.out, if_neg N2.out, ← HX.out, if_neg (by rw [← HSQ.out]; decide), if_pos HSQ.out.symm, ← HY.out])
    obtain ⟨gs, es, -, -⟩ := zaT h7.st.st (by rw [h7.st.nst]; have := P8.out; show 0 < s.status.length; omega)
    have m6 : W3.cell? ⟨M, 6, none⟩ = some (.slice v'.st.a v'.st.n v'.st.c) := h7.fr.cell 0 6 rfl rfl
    rw [es] at m6
    have q1 := h7.stAt es (j : Int) (by have := TT.out; have := P8.out; show j < s.status.length; omega)
    have tm : (j : Int) < (v'.st.n : Int) := by rw [h7.st.nst]; have := TT.out; have := P8.out; show (j : Int) < (s.status.length : Int); omega
    have h := h7.setSt es (j : Int) 1
    rw [show ((j : Nat) : Int).toNat = j from rfl] at h q1
    clear es h7
    go_upto_region 80 with fail
    obtain ⟨W4, hw, h8⟩ := h.named
    rw [← hw]
    clear hw h m6 q1 tm
    have h := h8
    clear h8
    obtain ⟨vv, hvv⟩ : ∃ x, x = v' := ⟨_, rfl⟩
    rw [← hvv] at h
    clear hvv
   rotate_left
   focus
    have hyx : y = x := by rw [HY.out]; unfold za4; rw [if_neg (by rw [← HSQ.out]; decide), if_neg (by rw [← HSQ.out]; decide)]
    have HYX : Hid (setOnce s i2 y = s) := xH1 (by rw [hyx, HX.out]; exact zfy s i2)
    clear hyx
    have HE : Hid (zI p s j = goAll p (setOnce s i2 y) [(j : Int)]) := xH1 (by
     unfold zI
     rw [← HO.out]
     show doOnce p s j ⟨4, ((i2 : Nat) : Int), ar⟩ = _
     unfold doOnce
     dsimp only
     rw [show ((i2 : Nat) : Int).toNat = i2 from rfl, show ((j : Nat) : Int).toNat = j from rfl, ← ESX.out, if_neg N2.out, ← HX.out, if_neg (by rw [← HSQ.out]; decide), if_neg (by rw [← HSQ.out]; decide), HYX.out]
     rfl)
    have h2 := h7.alloc #[.int .i64 j] 3
    have hw : SlR (StV.blks v') (World.alloc W3 (.cells #[.int .i64 j] 3)) ⟨some ⟨W3.heap.size, 0, none⟩, 1, 1⟩ (ints [(j : Int)]) [(j : Int)].length := ⟨rfl, Rd.of_blk (h2.fr.blk 0 rfl), .inr (fun b hb hm => by have h9 := (h7.st.from b hm).2; simp only [zi, Option.some.injEq] at hb; omega), Nat.le_refl _⟩
    go_wp2_with fail
    refine (zav w _ _ M u p v' _ _ false _ 1 1 [(j : Int)] (h2.pull 1 rfl) HP.out HVS.out hw (by simp) P8.out (fun z hz' => by obtain rfl := xS1 hz'; exact TT.out) PL8.out).mono ?_
    rintro e Wb ⟨rfl, h3, -⟩
    clear h2 hw h7
    have h := h3.sub (l' := .blk M (mC u v' false) 105 :: .blk bo #[.int .i64 4, .int .i64 (i2 : Int), .int .i64 ar] 44 :: sb3 w u v zC) (.cons_cons _ (.cons _ (.refl _)))
    clear h3
    obtain ⟨vv, hvv⟩ : ∃ x, x = v' := ⟨_, rfl⟩
    rw [← hvv] at h
    clear hvv
   rotate_left
  rotate_left 3
 rotate_left 4
 focus
  obtain ⟨on0, on1⟩ := zbO HOV.out
  rw [show zv p (5 : Int) = p.groups.length by unfold zv; rw [if_neg (by omega), if_neg (by omega), if_neg (by omega), if_pos (.inl rfl)]] at on1
  dsimp only at on0 on1
  obtain ⟨i2, rfl⟩ : ∃ z : Nat, on = z := ⟨on.toNat, by omega⟩
  have hi : i2 < s.groups.length := by rw [HF.out.ngr]; omega
  have HI := xH1 hi
  obtain ⟨b1, o1, ea, g'⟩ := HS.out.gr.rd.flat zdF zc0 (by rw [HS.out.inn.gr.len]; have := hi; omega) (by decide)
  obtain ⟨⟨x, q⟩, hxq⟩ : ∃ y, y = L.gr.getD i2 zc0 := ⟨_, rfl⟩
  have hx : x = s.groups.getD i2 zK := by have := HS.out.inn.gr.fst zK nilV i2; rw [← this]; exact congrArg Prod.fst hxq
  have hR := HS.out.inn.gr.at zK nilV (i := i2) hi
  replace g' := g' i2 (by rw [HS.out.inn.gr.len]; exact hi)
  rw [← hxq] at g'
  rw [show L.gr.getD i2 (zK, _) = (x, q) from hxq.symm, ← hx] at hR
  have HX := xH1 hx
  have g0 : w.cell? ⟨b1, o1 + i2 * 2, none⟩ = some (.int .i64 x.count) := by have := g' 0 (by decide); simpa [grpC] using this
  have g1 : w.cell? ⟨b1, o1 + i2 * 2 + 1, none⟩ = some (.slice q.a q.n q.c) := by have := g' 1 (by decide); simpa [grpC] using this
  have Q0 := xH1 ((show SlR [] w q (ints x.waits) x.waits.length from hR).rd)
  have QL0 := xH1 (show SlR [] w q (ints x.waits) x.waits.length from hR).len
  have QC0 := xH1 (show SlR [] w q (ints x.waits) x.waits.length from hR).cap
  clear g' hx hxq hR
  have HOK := xH1 (HF.out.gr i2 hi)
  rw [← HX.out] at HOK
  have j0 : (0 : Int) ≤ (i2 : Int) := by omega
  have j1 : (i2 : Int) < (v.gr.n : Int) := by rw [HS.out.gr.len]; omega
  have EA := xH1 ea
  replace g0 := zd h.fr.bel g0
  replace g1 := zd h.fr.bel g1
  clear hi ea on0 on1
  have hadd := zkt HOV.out rfl
  dsimp only at hadd
  have HPM : Hid (-99 ≤ ar ∧ ar ≤ 99) := xH1 (by omega)
  obtain ⟨bb, hbb⟩ : ∃ b, b = (zbE x ar).isSome := ⟨_, rfl⟩
  have HBB := xH1 hbb
  clear hadd hbb
  go_upto_region 36 with fail
  go_wp2_with fail
  obtain ⟨u3, rfl⟩ : ∃ x, x = W := ⟨_, rfl⟩
  refine zcP 16 90 14 (by kernel_rfl) (by kernel_rfl) [isV (.pointer (some ⟨w.heap.size + 1, 4, none⟩)), isV (.slice v.gr.a v.gr.n v.gr.c), isV (.pointer (some ⟨bo, 1, none⟩)), isV (.int .i64 i2), isV (.pointer (some ⟨b1, o1 + i2 * 2, none⟩)), isV (.agg #[.int .i64 x.count, .slice q.a q.n q.c]), isV (.pointer (some ⟨bo, 2, none⟩)), isV (.int .i64 ar), fun dz uz wz => (∃ (y : GrpD) (r z : SlV) (l : List Int), uz = .tuple #[.agg #[.int .i64 y.count, .slice r.a r.n r.c], .slice z.a z.n z.c, .bool bb] ∧ SlN u3 wz r (ints y.waits) y.waits.length ∧ wz.ownsRow u3.heap.size 3 1 (.slice z.a z.n z.c) z.n (ints l) ∧ zbE x ar = (if bb = true then some (y, l) else none)), fun dz uz wz => (uz = (dz.getD 0 undef) ∧ ∃ (y : GrpD) (r z : SlV) (l : List Int), uz = .tuple #[.agg #[.int .i64 y.count, .slice r.a r.n r.c], .slice z.a z.n z.c, .bool bb]), fun dz uz wz => (uz = zV (dz.getD 0 undef) 0 ∧ ∃ (y : GrpD) (r z : SlV) (l : List Int), uz = .agg #[.int .i64 y.count, .slice r.a r.n r.c]), fun dz uz wz => (uz = zV (dz.getD 0 undef) 1 ∧ ∃ (y : GrpD) (r z : SlV) (l : List Int), uz = .slice z.a z.n z.c), fun dz uz wz => uz = .bool bb, fun dz uz wz => (∃ (g : Nat) (ds : Array Value), uz = .pointer (some ⟨g, 0, none⟩) ∧ ds.size = 2 ∧ Blk wz g ds 90 ∧ u3.heap.size ≤ g), fun dz uz wz => (∃ (g : Nat) (y : GrpD) (r z : SlV) (l : List Int), (dz.getD 0 undef) = .pointer (some ⟨g, 0, none⟩) ∧ (dz.getD 1 undef) = .agg #[.int .i64 y.count, .slice r.a r.n r.c] ∧ Blk wz g #[.int .i64 y.count, .slice r.a r.n r.c] 90), fun dz uz wz => uz = (dz.getD 0 undef)] ⟨pS, pS, pS, pS, pS, pS, pS, pS, fun _ _ _ _ hb ⟨y, r, z, l, e, m0, m1, m2⟩ => ⟨y, r, z, l, e, m0.below hb, zj m1 hb, m2⟩, fun _ _ _ _ _ h => h, fun _ _ _ _ _ h => h, fun _ _ _ _ _ h => h, fun _ _ _ _ _ h => h, fun _ _ _ _ hb ⟨g, ds, e, hz, h, hs⟩ => ⟨g, ds, e, hz, h.below hb, hs⟩, fun _ _ _ _ hb ⟨g, y, r, z, l, e1, e2, h⟩ => ⟨g, y, r, z, l, e1, e2, h.below hb⟩, fun _ _ _ _ _ h => h, trivial⟩ ⟨.inr (pS), .inr (pS), .inr (pS), .inr (pS), .inr (pS), .inr (pS), .inr (pS), .inr (pS), .inr (fun _ _ _ _ hT ⟨y, r, z, l, e, m0, m1, m2⟩ => ⟨y, r, z, l, e, m0.ts hT (by decide), zfU m1 hT (by decide), m2⟩), .inr (fun _ _ _ _ _ h => h), .inr (fun _ _ _ _ _ h => h), .inr (fun _ _ _ _ _ h => h), .inr (fun _ _ _ _ _ h => h), .inr (fun _ _ _ _ hT ⟨g, ds, e, hz, h, hs⟩ => ⟨g, (hT.prg g ds h).choose, e, (hT.prg g ds h).choose_spec.1.trans hz, (hT.prg g ds h).choose_spec.2, hs⟩), .inl rfl, .inr (fun _ _ _ _ _ h => h), trivial⟩ ?_ ?_
  ·simp only [List.take_succ_cons, List.take_zero]
   refine ⟨?_, ?_, ?_, ?_, ?_, ?_, ?_, ?_, ?_, ?_, ?_, ?_, ?_, ?_, ?_, ?_, trivial⟩
   all_goals (intro ρ w1 L hG hny hfr hd; obtain ⟨fc, ff⟩ := fcff hfr; have f4 : ρ (.tmp 4) = .pointer (some ⟨w.heap.size + 1, 0, none⟩) := hfr _ rfl; have f9 : ρ (.tmp 9) = .pointer (some ⟨bo, 0, none⟩) := hfr _ rfl; have F1 := h.fr.call hG; have cs := F1.c9 3 rfl; have co := F1.c3 1 rfl; have g0 := (fun _ => zd hG g0) F1; have g1 := (fun _ => zd hG g1) F1; clear F1)
   ·exact gvT hG (by go_simp) rfl xN1
   ·obtain ⟨d0, -⟩ := hd
    have d0 : ρ (.tmp 239) = _ := d0
    exact gvT hG (by go_simp) rfl xN1
   ·exact gvT hG (by go_simp) rfl xN1
   ·obtain ⟨d0, -⟩ := hd
    have d0 : ρ (.tmp 241) = _ := d0
    exact gvT hG (by go_simp) rfl xN1
   ·obtain ⟨d0, d1, -⟩ := hd
    have d0 : ρ (.tmp 240) = _ := d0
    have d1 : ρ (.tmp 242) = _ := d1
    rw [EA.out] at d0
    exact gvT hG (by go_simp) rfl xN1
   ·obtain ⟨d0, -⟩ := hd
    have d0 : ρ (.tmp 243) = _ := d0
    exact gvT hG (by go_simp) rfl xN1
   ·exact gvT hG (by go_simp) rfl xN1
   ·obtain ⟨d0, -⟩ := hd
    have d0 : ρ (.tmp 245) = _ := d0
    exact gvT hG (by go_simp) rfl xN1
   ·obtain ⟨d0, d1, -⟩ := hd
    have d0 : ρ (.tmp 244) = _ := d0
    have d1 : ρ (.tmp 246) = _ := d1
    refine zL (by go_simp; exact ⟨⟨rfl, rfl⟩, rfl⟩) ?_
    refine (zgy x q.a q.n q.c ar w1 QL0.out.symm ((h.fr.call hG).rd Q0.out) HOK.out HPM.out).mono ?_
    rintro e w2 ⟨y, r, z, l, b, hy, rfl, hr, hz, -, hb⟩
    obtain rfl : b = bb := by rw [HBB.out, hy]; cases b <;> rfl
    exact ⟨_, rfl, zD (by decide) hb, ⟨y, r, z, l, rfl, hr.mono hG.size, zu hz hG.size, hy⟩, xN1, hG.trans (hb.mono hG.size)⟩
   ·obtain ⟨d0, -⟩ := hd
    have d0 : (∃ (y : GrpD) (r z : SlV) (l : List Int), (ρ (.tmp 247)) = .tuple #[.agg #[.int .i64 y.count, .slice r.a r.n r.c], .slice z.a z.n z.c, .bool bb] ∧ SlN u3 w1 r (ints y.waits) y.waits.length ∧ w1.ownsRow u3.heap.size 3 1 (.slice z.a z.n z.c) z.n (ints l) ∧ zbE x ar = (if bb = true then some (y, l) else none)) := d0
    obtain ⟨y, r, z, l, d0, -⟩ := d0
    refine zf (u := .tuple #[.agg #[.int .i64 y.count, .slice r.a r.n r.c], .slice z.a z.n z.c, .bool bb]) (w' := w1) (by go_simp) ⟨zD (by decide) xB1, ⟨d0.symm, ⟨y, r, z, l, rfl⟩⟩, xN1, hG⟩
   ·obtain ⟨d0, -⟩ := hd
    have d0 : ((ρ (.tmp 238)) = (ρ (.tmp 247)) ∧ ∃ (y : GrpD) (r z : SlV) (l : List Int), (ρ (.tmp 238)) = .tuple #[.agg #[.int .i64 y.count, .slice r.a r.n r.c], .slice z.a z.n z.c, .bool bb]) := d0
    obtain ⟨y, r, z, l, d1⟩ := d0.2
    clear d0
    refine zf (u := .agg #[.int .i64 y.count, .slice r.a r.n r.c]) (w' := w1) (by go_simp) ⟨zD (by decide) xB1, ⟨by show (.agg #[.int .i64 y.count, .slice r.a r.n r.c] : Value) = zV (ρ (.tmp 238)) 0; rw [d1]; rfl, ⟨y, r, z, l, rfl⟩⟩, xN1, hG⟩
   ·obtain ⟨d0, -⟩ := hd
    have d0 : ((ρ (.tmp 238)) = (ρ (.tmp 247)) ∧ ∃ (y : GrpD) (r z : SlV) (l : List Int), (ρ (.tmp 238)) = .tuple #[.agg #[.int .i64 y.count, .slice r.a r.n r.c], .slice z.a z.n z.c, .bool bb]) := d0
    obtain ⟨y, r, z, l, d1⟩ := d0.2
    clear d0
    refine zf (u := .slice z.a z.n z.c) (w' := w1) (by go_simp) ⟨zD (by decide) xB1, ⟨by show (.slice z.a z.n z.c : Value) = zV (ρ (.tmp 238)) 1; rw [d1]; rfl, ⟨y, r, z, l, rfl⟩⟩, xN1, hG⟩
   ·obtain ⟨d0, -⟩ := hd
    have d0 : ((ρ (.tmp 238)) = (ρ (.tmp 247)) ∧ ∃ (y : GrpD) (r z : SlV) (l : List Int), (ρ (.tmp 238)) = .tuple #[.agg #[.int .i64 y.count, .slice r.a r.n r.c], .slice z.a z.n z.c, .bool bb]) := d0
    obtain ⟨y, r, z, l, d1⟩ := d0.2
    clear d0
    refine zf (u := .bool bb) (w' := w1) (by go_simp) ⟨zD (by decide) xB1, rfl, xN1, hG⟩
   ·refine zf (u := .pointer (some ⟨w1.heap.size, 0, none⟩)) (w' := w1.alloc (.cells #[.int .i64 0, .slice none 0 0] 90)) (by go_simp) ⟨zD (by decide) (xA1), ⟨_, _, rfl, rfl, Blk.new _ _ _, hG.size⟩, xN1, hG.alloc hG.size _⟩
   ·obtain ⟨d0, d1, -⟩ := hd
    have d0 : (∃ (g : Nat) (ds : Array Value), (ρ (.tmp 23)) = .pointer (some ⟨g, 0, none⟩) ∧ ds.size = 2 ∧ Blk w1 g ds 90 ∧ u3.heap.size ≤ g) := d0
    have d1 : ((ρ (.tmp 248)) = zV (ρ (.tmp 238)) 0 ∧ ∃ (y : GrpD) (r z : SlV) (l : List Int), (ρ (.tmp 248)) = .agg #[.int .i64 y.count, .slice r.a r.n r.c]) := d1
    obtain ⟨g, ds, e10, hz, hB, hgs⟩ := d0
    obtain ⟨c0, c1, rfl⟩ := arr2 hz
    obtain ⟨y, r, z, l, d1'⟩ := d1.2
    clear d1
    have d1 := d1'
    have z0 := hB.cell 0 rfl
    have y0 := hB.fz 0
    have z1 := hB.cell 1 rfl
    have y1 := hB.fz 1
    have hst : TS 90 u3.heap.size w1 ((w1.setCell ⟨g, 0, none⟩ (.int .i64 y.count)).setCell ⟨g, 1, none⟩ (.slice r.a r.n r.c)) := TS.all [.int .i64 y.count, .slice r.a r.n r.c] 0 hB hgs
    have hkk : Blk ((w1.setCell ⟨g, 0, none⟩ (.int .i64 y.count)).setCell ⟨g, 1, none⟩ (.slice r.a r.n r.c)) g #[.int .i64 y.count, .slice r.a r.n r.c] 90 := (Blk.set (Blk.set hB 0 (.int .i64 y.count)) 1 (.slice r.a r.n r.c))
    refine zdu (w' := ((w1.setCell ⟨g, 0, none⟩ (.int .i64 y.count)).setCell ⟨g, 1, none⟩ (.slice r.a r.n r.c))) (by go_simp) ⟨zdm hst, ⟨g, y, r, z, l, e10, d1, hkk⟩, xN1, hG.trans hst.bel⟩
   ·obtain ⟨d0, -⟩ := hd
    have d0 : ((ρ (.tmp 249)) = zV (ρ (.tmp 238)) 1 ∧ ∃ (y : GrpD) (r z : SlV) (l : List Int), (ρ (.tmp 249)) = .slice z.a z.n z.c) := d0
    obtain ⟨y, r, z, l, d1⟩ := d0.2
    clear d0
    have d0 := d1
    refine zf (u := .slice z.a z.n z.c) (w' := w1) (by go_simp) ⟨zD (by decide) xB1, d0.symm, xN1, hG⟩
  intro vs w2 hG hlen hall
  obtain ⟨xv0, xv1, xv2, xv3, xv4, xv5, xv6, xv7, xv8, xv9, xv10, xv11, xv12, xv13, xv14, xv15, rfl⟩ := ziR hlen
  clear hlen
  simp only [List.take_succ_cons, List.take_zero, List.drop_succ_cons, List.drop_zero] at hall ⊢
  obtain ⟨hv0, hv1, hv2, hv3, hv4, hv5, hv6, hv7, hv8, hv9, hv10, hv11, hv12, hv13, hv14, hv15, -⟩ := hall
  replace hv8 : (∃ (y : GrpD) (r z : SlV) (l : List Int), xv8 = .tuple #[.agg #[.int .i64 y.count, .slice r.a r.n r.c], .slice z.a z.n z.c, .bool bb] ∧ SlN u3 w2 r (ints y.waits) y.waits.length ∧ w2.ownsRow u3.heap.size 3 1 (.slice z.a z.n z.c) z.n (ints l) ∧ zbE x ar = (if bb = true then some (y, l) else none)) := hv8
  replace hv9 : (xv9 = xv8 ∧ ∃ (y : GrpD) (r z : SlV) (l : List Int), xv9 = .tuple #[.agg #[.int .i64 y.count, .slice r.a r.n r.c], .slice z.a z.n z.c, .bool bb]) := hv9
  replace hv10 : (xv10 = zV xv9 0 ∧ ∃ (y : GrpD) (r z : SlV) (l : List Int), xv10 = .agg #[.int .i64 y.count, .slice r.a r.n r.c]) := hv10
  replace hv11 : (xv11 = zV xv9 1 ∧ ∃ (y : GrpD) (r z : SlV) (l : List Int), xv11 = .slice z.a z.n z.c) := hv11
  replace hv13 : (∃ (g : Nat) (ds : Array Value), xv13 = .pointer (some ⟨g, 0, none⟩) ∧ ds.size = 2 ∧ Blk w2 g ds 90 ∧ u3.heap.size ≤ g) := hv13
  replace hv14 : (∃ (g : Nat) (y : GrpD) (r z : SlV) (l : List Int), xv13 = .pointer (some ⟨g, 0, none⟩) ∧ xv10 = .agg #[.int .i64 y.count, .slice r.a r.n r.c] ∧ Blk w2 g #[.int .i64 y.count, .slice r.a r.n r.c] 90) := hv14
  replace hv15 : xv15 = xv11 := hv15
  obtain rfl : xv0 = _ := hv0
  obtain rfl : xv1 = _ := hv1
  obtain rfl : xv2 = _ := hv2
  obtain rfl : xv3 = _ := hv3
  obtain rfl : xv4 = _ := hv4
  obtain rfl : xv5 = _ := hv5
  obtain rfl : xv6 = _ := hv6
  obtain rfl : xv7 = _ := hv7
  obtain rfl : xv12 = _ := hv12
  obtain ⟨y, r, z, l, rfl, hm0, hm1, hm2⟩ := hv8
  obtain ⟨rfl, -⟩ := hv9
  have he10 : xv10 = .agg #[.int .i64 y.count, .slice r.a r.n r.c] := by simpa [zV] using hv10.1
  subst he10
  have he11 : xv11 = .slice z.a z.n z.c := by simpa [zV] using hv11.1
  subst he11
  subst hv15
  obtain ⟨gA1, dA1, rfl, -, -, hgA1⟩ := hv13
  obtain ⟨gA2, y2, r2, z2, l2, e1, e2, kN⟩ := hv14
  obtain rfl : gA1 = gA2 := by simpa using e1
  have e3 : (#[.int .i64 y.count, .slice r.a r.n r.c] : Array Value) = #[.int .i64 y2.count, .slice r2.a r2.n r2.c] := by
   have h1 : Value.agg #[.int .i64 y.count, .slice r.a r.n r.c] = .agg #[.int .i64 y2.count, .slice r2.a r2.n r2.c] := e2
   injection h1
  rw [← e3] at kN
  clear e1 e2 e3 hv10 hv11
  simp only [z9, Act.put, List.setIfInBounds_toArray, List.set_cons_succ, List.set_cons_zero]
  have hu : SlR v'.blks w2 z (ints l) l.length := zeu h hm1
  have hq : grpR (zZ (.blk M (mC u v' false) 105 :: .blk bo #[.int .i64 5, .int .i64 (i2 : Int), .int .i64 ar] 44 :: sb3 w u v zC) ++ v'.blks) w2 y r := h.apart hm0
  replace h := h.call hG
  clear g0 g1 hG hm0 hm1
  cases bb
  ·clear hu hq kN
   rw [if_neg (by decide)] at hm2
   have HE : Hid (zI p s j = zbl s 2) := xH1 (by
    unfold zI
    rw [← HO.out]
    show doAdd p s j ⟨5, ((i2 : Nat) : Int), ar⟩ = _
    unfold doAdd
    dsimp only
    rw [show ((i2 : Nat) : Int).toNat = i2 from rfl, ← HX.out, hm2])
   go_wp2_with fail
   refine (zdw (w.heap.size + 1) 2 v L s _ (h.fr.blk 3 rfl) (HS.out.below h.bel) HF.out.sm).mono ?_
   rintro e Wc ⟨v2, L2, rfl, ho, hn, hb⟩
   have HN2 := NewB.lower hn h.bel.size
   have g := Sf.gain h.fr ho hn hb
   clear ho hn hb h
   have cz := g.c9 2 rfl
   have g2 := g.set9 2 rfl (.slice v2.pl.a v2.pl.n v2.pl.c) (.slice v2.st.a v2.st.n v2.st.c) (.slice v2.se.a v2.se.n v2.se.c) (.slice v2.on.a v2.on.n v2.on.c) (.slice v2.gr.a v2.gr.n v2.gr.c) (.slice v2.ba.a v2.ba.n v2.ba.c) (.slice v2.ch.a v2.ch.n v2.ch.c) (.slice v2.sa.a v2.sa.n v2.sa.c) (.int .i64 v2.fl)
   go_wp2
   exact bodyPost_ret (v := .tuple #[.agg #[.slice v2.pl.a v2.pl.n v2.pl.c, .slice v2.st.a v2.st.n v2.st.c, .slice v2.se.a v2.se.n v2.se.c, .slice v2.on.a v2.on.n v2.on.c, .slice v2.gr.a v2.gr.n v2.gr.c, .slice v2.ba.a v2.ba.n v2.ba.c, .slice v2.ch.a v2.ch.n v2.ch.c, .slice v2.sa.a v2.sa.n v2.sa.c, .int .i64 v2.fl], .bool true]) (by simp [results, Try.results36, go_sem, g2.c9 2 rfl]) rfl ⟨v2, L2, rfl, by rw [HE.out]; exact g2.st.sub (by simp), HN2, g2.bel⟩
  rw [if_pos rfl] at hm2
  have HE : Hid (zI p s j = goAll p (goAll p (setGrp s i2 y) l) [(j : Int)]) := xH1 (by
   unfold zI
   rw [← HO.out]
   show doAdd p s j ⟨5, ((i2 : Nat) : Int), ar⟩ = _
   unfold doAdd
   dsimp only
   rw [show ((i2 : Nat) : Int).toNat = i2 from rfl, ← HX.out, hm2]
   exact zdn p _ l [(j : Int)])
  have HTO : Hid (Told p s l) := xH1 (zjW HF.out HI.out (by rw [← HX.out]; exact hm2))
  have PLB : Hid (∀ i, 0 ≤ (goAll p (setGrp s i2 y) l).places.getD i 0 ∧ (goAll p (setGrp s i2 y) l).places.getD i 0 ≤ 8) := xH1 (le8 (s := s) HST.out.fits (fun i => (PL8.out i).1) (fun i => (zaD l (setGrp s i2 y) i).1) (fun i => by rw [HE.out]; exact (zaD [(j : Int)] _ i).1))
  clear hm2
  obtain ⟨gt, eg, -, -⟩ := zaT h.st.gr (by rw [h.st.ngr]; have := HI.out; omega)
  have EG := xH1 eg
  have ownP := h.st.gr
  rw [show v'.gr.val = .slice (some ⟨gt, 0, none⟩) v'.gr.n v'.gr.c by rw [← EG.out]] at ownP
  have fz0 := ownP.frozenAt (i2 * 2)
  have fz1 := ownP.frozenAt (i2 * 2 + 1)
  obtain ⟨y0, cg0⟩ := zQ ownP (i2 * 2) (by have := HI.out; have := h.st.ngr; omega)
  obtain ⟨y1, cg1⟩ := zQ ownP (i2 * 2 + 1) (by have := HI.out; have := h.st.ngr; omega)
  have hP := h.st.put_gr (g := gt) EG.out i2 HI.out (x := y) (q := r) hq
  have hgm : gt ∈ v'.blks := StV.mem_gr (by rw [EG.out]; rfl)
  have h6 := h.put hgm hP
  have hu6 := (hu.touch hP.2 (fun b hb => by obtain rfl := xS1 hb; exact hgm)).drew
  clear hP hgm hu
  have qm : World.cell? _ ⟨M, 9, none⟩ = some (.slice v'.gr.a v'.gr.n v'.gr.c) := h.fr.cell 0 9 rfl rfl
  rw [EG.out] at qm
  have co := h.fr.c3 1 rfl
  have n0 := kN.cell 0 rfl
  have n1 := kN.cell 1 rfl
  have j2 : (i2 : Int) < (v'.gr.n : Int) := by rw [h.st.ngr]; have := HI.out; omega
  clear ownP eg
  go_wp2
  go_still_tail 9, (by kernel_rfl)
  go_upto_region 40 with fail
  obtain ⟨W3, hw, h7⟩ := h6.drew.named
  rw [← hw]
  rw [← hw] at hu6
  clear h6 h hw kN co qm hq n0 fz0 cg0 n1 fz1 cg1
  go_wp2_with fail
  refine (zav w _ _ M u p v' _ _ false z.a z.n z.c l h7 HP.out HVS.out hu6 HTO.out.1 P8.out HTO.out.2 PL8.out).mono ?_
  rintro e Wt ⟨rfl, h8, -⟩
  clear h7 hu6
  have h2 := h8.alloc #[.int .i64 j] 3
  have hw : SlR (StV.blks v') (World.alloc Wt (.cells #[.int .i64 j] 3)) ⟨some ⟨Wt.heap.size, 0, none⟩, 1, 1⟩ (ints [(j : Int)]) [(j : Int)].length := ⟨rfl, Rd.of_blk (h2.fr.blk 0 rfl), .inr (fun b hb hm => by have h9 := (h8.st.from b hm).2; simp only [zi, Option.some.injEq] at hb; omega), Nat.le_refl _⟩
  go_wp2_with fail
  refine (zav w _ _ M u p v' _ _ false _ 1 1 [(j : Int)] (h2.pull 1 rfl) HP.out HVS.out hw (by simp) (by rw [zaA, zbD]; exact P8.out) (fun z hz' => by obtain rfl := xS1 hz'; exact (by have := TT.out; rw [zaA]; exact this)) PLB.out).mono ?_
  rintro e Wb ⟨rfl, h3, -⟩
  clear h2 hw h8
  have h := h3.sub (l' := .blk M (mC u v' false) 105 :: .blk bo #[.int .i64 5, .int .i64 (i2 : Int), .int .i64 ar] 44 :: sb3 w u v zC) (.cons_cons _ (.cons _ (.refl _)))
  clear h3
  obtain ⟨vv, hvv⟩ : ∃ x, x = v' := ⟨_, rfl⟩
  rw [← hvv] at h
  clear hvv
 rotate_left
 focus
  obtain ⟨on0, on1⟩ := zbO HOV.out
  rw [show zv p (6 : Int) = p.groups.length by unfold zv; rw [if_neg (by omega), if_neg (by omega), if_neg (by omega), if_pos (.inr rfl)]] at on1
  dsimp only at on0 on1
  obtain ⟨i2, rfl⟩ : ∃ z : Nat, on = z := ⟨on.toNat, by omega⟩
  have hi : i2 < s.groups.length := by rw [HF.out.ngr]; omega
  have HI := xH1 hi
  obtain ⟨b1, o1, ea, g'⟩ := HS.out.gr.rd.flat zdF zc0 (by rw [HS.out.inn.gr.len]; have := hi; omega) (by decide)
  obtain ⟨⟨x, q⟩, hxq⟩ : ∃ y, y = L.gr.getD i2 zc0 := ⟨_, rfl⟩
  have hx : x = s.groups.getD i2 zK := by have := HS.out.inn.gr.fst zK nilV i2; rw [← this]; exact congrArg Prod.fst hxq
  have hR := HS.out.inn.gr.at zK nilV (i := i2) hi
  replace g' := g' i2 (by rw [HS.out.inn.gr.len]; exact hi)
  rw [← hxq] at g'
  rw [show L.gr.getD i2 (zK, _) = (x, q) from hxq.symm, ← hx] at hR
  have HX := xH1 hx
  have g0 : w.cell? ⟨b1, o1 + i2 * 2, none⟩ = some (.int .i64 x.count) := by have := g' 0 (by decide); simpa [grpC] using this
  have g1 : w.cell? ⟨b1, o1 + i2 * 2 + 1, none⟩ = some (.slice q.a q.n q.c) := by have := g' 1 (by decide); simpa [grpC] using this
  have Q0 := xH1 ((show SlR [] w q (ints x.waits) x.waits.length from hR).rd)
  have QL0 := xH1 (show SlR [] w q (ints x.waits) x.waits.length from hR).len
  have QC0 := xH1 (show SlR [] w q (ints x.waits) x.waits.length from hR).cap
  clear g' hx hxq hR
  have HOK := xH1 (HF.out.gr i2 hi)
  rw [← HX.out] at HOK
  have j0 : (0 : Int) ≤ (i2 : Int) := by omega
  have j1 : (i2 : Int) < (v.gr.n : Int) := by rw [HS.out.gr.len]; omega
  have EA := xH1 ea
  replace g0 := zd h.fr.bel g0
  replace g1 := zd h.fr.bel g1
  clear hi ea on0 on1
  have hno : (j : Int) ∉ oT s := NOT.out.resolve_right (by decide)
  have HNW : Hid ((j : Int) ∉ x.waits) := xH1 (fun hm => HT.out.ne (List.mem_map.2 ⟨((j : Int), 6, ((i2 : Nat) : Int), 0), zdI HI.out (by rw [← HX.out]; exact List.mem_map.2 ⟨_, hm, rfl⟩), rfl⟩))
  have HE : Hid (zI p s j = za1 p (setGrp s i2 (zbf x j).1) j (zbf x j).2) := xH1 (by
   unfold zI
   rw [← HO.out, HX.out]
   rfl)
  clear hno
  go_upto_region 43 with fail
  have cs := h.fr.c9 3 rfl
  have co := h.fr.c3 1 rfl
  rw [EA.out] at cs
  go_wp2_with fail
  refine (zgn x q.a q.n q.c j _ QL0.out.symm (h.fr.rd Q0.out) HOK.out T6.out HNW.out).mono ?_
  rintro e w2 ⟨y, r, hy, rfl, hr, hb⟩
  have bA : Below w2.heap.size w2 (Go.World.alloc w2 (.cells #[.int .i64 y.count, .slice r.a r.n r.c] 90)) := xA1
  have HY := xH1 hy
  clear hy
  have hq := h.apart (hr.below bA)
  have kN : Blk (Go.World.alloc w2 (.cells #[.int .i64 y.count, .slice r.a r.n r.c] 90)) w2.heap.size #[.int .i64 y.count, .slice r.a r.n r.c] 90 := Blk.new _ _ _
  replace h := (h.call hb).call bA
  clear cs co g0 g1 hb bA hr
  go_upto_region 44 with fail
  obtain ⟨WA, hWA⟩ : ∃ x, x = (Go.World.alloc w2 (.cells #[.int .i64 y.count, .slice r.a r.n r.c] 90)) := ⟨_, rfl⟩
  rw [← hWA] at h kN hq ⊢
  clear hWA
  rw [← HY.out] at HE
  obtain ⟨gt, eg, -, -⟩ := zaT h.st.gr (by rw [h.st.ngr]; have := HI.out; omega)
  have EG := xH1 eg
  have ownP := h.st.gr
  rw [show v'.gr.val = .slice (some ⟨gt, 0, none⟩) v'.gr.n v'.gr.c by rw [← EG.out]] at ownP
  have fz0 := ownP.frozenAt (i2 * 2)
  have fz1 := ownP.frozenAt (i2 * 2 + 1)
  obtain ⟨y0, cg0⟩ := zQ ownP (i2 * 2) (by have := HI.out; have := h.st.ngr; omega)
  obtain ⟨y1, cg1⟩ := zQ ownP (i2 * 2 + 1) (by have := HI.out; have := h.st.ngr; omega)
  have hP := h.st.put_gr (g := gt) EG.out i2 HI.out (x := y) (q := r) hq
  have hgm : gt ∈ v'.blks := StV.mem_gr (by rw [EG.out]; rfl)
  have h6 := h.put hgm hP
  clear hP hgm
  have qm : World.cell? _ ⟨M, 9, none⟩ = some (.slice v'.gr.a v'.gr.n v'.gr.c) := h.fr.cell 0 9 rfl rfl
  rw [EG.out] at qm
  have co := h.fr.c3 1 rfl
  have n0 := kN.cell 0 rfl
  have n1 := kN.cell 1 rfl
  have j2 : (i2 : Int) < (v'.gr.n : Int) := by rw [h.st.ngr]; have := HI.out; omega
  clear ownP eg
  go_wp2
  go_still_tail 9, (by kernel_rfl)
  go_upto_region 45 with fail
  obtain ⟨W3, hw, h7⟩ := h6.drew.named
  rw [← hw]
  clear h6 h hw kN co qm hq n0 fz0 cg0 n1 fz1 cg1
  replace HE : Hid (zI p s j = za1 p { s with groups := s.groups.set i2 y } j (zbf x j).2) := xH1 HE.out
  go_wp2_with fail
  refine (zbL w _ _ M u p v' _ _ false j _ h7 HP.out HVS.out P8.out TT.out PL8.out).mono ?_
  rintro e Wb ⟨rfl, h⟩
  clear h7
  obtain ⟨vv, hvv⟩ : ∃ x, x = v' := ⟨_, rfl⟩
  rw [← hvv] at h
  clear hvv
 rotate_left
 focus
  obtain ⟨on0, on1⟩ := zbO HOV.out
  rw [show zv p (7 : Int) = p.barriers.length by unfold zv; rw [if_neg (by omega), if_neg (by omega), if_neg (by omega), if_neg (by omega), if_pos rfl]] at on1
  dsimp only at on0 on1
  obtain ⟨i2, rfl⟩ : ∃ z : Nat, on = z := ⟨on.toNat, by omega⟩
  have hi : i2 < s.bars.length := by rw [HF.out.nba]; omega
  have HI := xH1 hi
  obtain ⟨b1, o1, ea, g'⟩ := HS.out.ba.rd.flat zeq zd2 (by rw [HS.out.inn.ba.len]; have := hi; omega) (by decide)
  obtain ⟨⟨x, q⟩, hxq⟩ : ∃ y, y = L.ba.getD i2 zd2 := ⟨_, rfl⟩
  have hx : x = s.bars.getD i2 zx := by have := HS.out.inn.ba.fst zx nilV i2; rw [← this]; exact congrArg Prod.fst hxq
  have hR := HS.out.inn.ba.at zx nilV (i := i2) hi
  replace g' := g' i2 (by rw [HS.out.inn.ba.len]; exact hi)
  rw [← hxq] at g'
  rw [show L.ba.getD i2 (zx, _) = (x, q) from hxq.symm, ← hx] at hR
  have HX := xH1 hx
  have g0 : w.cell? ⟨b1, o1 + i2 * 3, none⟩ = some (.int .i64 x.parties) := by have := g' 0 (by decide); simpa [barC] using this
  have g1 : w.cell? ⟨b1, o1 + i2 * 3 + 1, none⟩ = some (.int .i64 x.round) := by have := g' 1 (by decide); simpa [barC] using this
  have g2 : w.cell? ⟨b1, o1 + i2 * 3 + 2, none⟩ = some (.slice q.a q.n q.c) := by have := g' 2 (by decide); simpa [barC] using this
  have Q0 := xH1 ((show SlR [] w q (ints x.waits) x.waits.length from hR).rd)
  have QL0 := xH1 (show SlR [] w q (ints x.waits) x.waits.length from hR).len
  have QC0 := xH1 (show SlR [] w q (ints x.waits) x.waits.length from hR).cap
  clear g' hx hxq hR
  have HOK := xH1 (HF.out.ba i2 hi)
  rw [← HX.out] at HOK
  have j0 : (0 : Int) ≤ (i2 : Int) := by omega
  have j1 : (i2 : Int) < (v.ba.n : Int) := by rw [HS.out.ba.len]; omega
  have EA := xH1 ea
  replace g0 := zd h.fr.bel g0
  replace g1 := zd h.fr.bel g1
  replace g2 := zd h.fr.bel g2
  clear hi ea on0 on1
  have hno : (j : Int) ∉ oT s := NOT.out.resolve_right (by decide)
  have HNW : Hid ((j : Int) ∉ x.waits) := xH1 (fun hm => HT.out.ne (List.mem_map.2 ⟨((j : Int), 7, ((i2 : Nat) : Int), 0), zdO HI.out (by rw [← HX.out]; exact List.mem_map.2 ⟨_, hm, rfl⟩), rfl⟩))
  have HRD' : Hid (x.round < 9999) := xH1 (by have h1 := HR.out.rnd i2; have h2 := HF.out.sum32; rw [← HX.out] at h1; omega)
  clear hno
  go_upto_region 47 with fail
  have cs := h.fr.c9 3 rfl
  have co := h.fr.c3 1 rfl
  rw [EA.out] at cs
  go_wp2_with fail
  refine (zhD x q.a q.n q.c j _ QL0.out.symm (h.fr.rd Q0.out) HOK.out.1 T6.out HNW.out HRD'.out).mono ?_
  rintro e w2 ⟨y, r, z, l, hm2, rfl, hr, hz, -, -, hb⟩
  have bA : Below w2.heap.size w2 (Go.World.alloc w2 (.cells #[.int .i64 y.parties, .int .i64 y.round, .slice r.a r.n r.c] 92)) := xA1
  have hu : SlR v'.blks (Go.World.alloc w2 (.cells #[.int .i64 y.parties, .int .i64 y.round, .slice r.a r.n r.c] 92)) z (ints l) l.length := (zeu h hz).below bA
  have hq := h.apart (hr.below bA)
  have kN : Blk (Go.World.alloc w2 (.cells #[.int .i64 y.parties, .int .i64 y.round, .slice r.a r.n r.c] 92)) w2.heap.size #[.int .i64 y.parties, .int .i64 y.round, .slice r.a r.n r.c] 92 := Blk.new _ _ _
  replace h := (h.call hb).call bA
  clear cs co g0 g1 g2 hb bA hr
  go_upto_region 48 with fail
  obtain ⟨WA, hWA⟩ : ∃ x, x = (Go.World.alloc w2 (.cells #[.int .i64 y.parties, .int .i64 y.round, .slice r.a r.n r.c] 92)) := ⟨_, rfl⟩
  rw [← hWA] at h kN hq hu ⊢
  clear hWA
  clear hz
  have HM := xH1 hm2
  have HTO : Hid (Told p s l) := xH1 (zjA HF.out HI.out TT.out (by rw [← HX.out]; exact hm2))
  have ZN : Hid (z.n = l.length) := xH1 hu.len
  clear hm2
  obtain ⟨gt, eg, -, -⟩ := zaT h.st.ba (by rw [h.st.nba]; have := HI.out; omega)
  have EG := xH1 eg
  have ownP := h.st.ba
  rw [show v'.ba.val = .slice (some ⟨gt, 0, none⟩) v'.ba.n v'.ba.c by rw [← EG.out]] at ownP
  have fz0 := ownP.frozenAt (i2 * 3)
  have fz1 := ownP.frozenAt (i2 * 3 + 1)
  have fz2 := ownP.frozenAt (i2 * 3 + 2)
  obtain ⟨y0, cg0⟩ := zQ ownP (i2 * 3) (by have := HI.out; have := h.st.nba; omega)
  obtain ⟨y1, cg1⟩ := zQ ownP (i2 * 3 + 1) (by have := HI.out; have := h.st.nba; omega)
  obtain ⟨y2, cg2⟩ := zQ ownP (i2 * 3 + 2) (by have := HI.out; have := h.st.nba; omega)
  have hP := h.st.put_ba (g := gt) EG.out i2 HI.out (x := y) (q := r) hq
  have hgm : gt ∈ v'.blks := StV.mem_ba (by rw [EG.out]; rfl)
  have h6 := h.put hgm hP
  have hu6 := (hu.touch hP.2 (fun b hb => by obtain rfl := xS1 hb; exact hgm)).drew
  clear hP hgm hu
  have qm : World.cell? _ ⟨M, 10, none⟩ = some (.slice v'.ba.a v'.ba.n v'.ba.c) := h.fr.cell 0 10 rfl rfl
  rw [EG.out] at qm
  have co := h.fr.c3 1 rfl
  have n0 := kN.cell 0 rfl
  have n1 := kN.cell 1 rfl
  have n2 := kN.cell 2 rfl
  have j2 : (i2 : Int) < (v'.ba.n : Int) := by rw [h.st.nba]; have := HI.out; omega
  clear ownP eg
  go_wp2
  go_still_tail 9, (by kernel_rfl)
  go_upto_region 51 with fail
  obtain ⟨W3, hw, h7⟩ := h6.drew.named
  rw [← hw]
  rw [← hw] at hu6
  clear h6 h hw kN co qm hq n0 fz0 cg0 n1 fz1 cg1 n2 fz2 cg2
  have zn := hu6.len
  rcases l with _ | ⟨l0, l1⟩
  focus
   have HE : Hid (zI p s j = goAll p (zab (setBar s i2 y) j 1) []) := xH1 (by
    unfold zI
    rw [← HO.out]
    show doCome p s j ⟨7, ((i2 : Nat) : Int), ar⟩ = _
    unfold doCome
    dsimp only
    rw [show ((i2 : Nat) : Int).toNat = i2 from rfl, ← HX.out, HM.out]
    exact if_pos rfl)
   obtain ⟨za, zn', zc⟩ := z
   obtain rfl : zn' = 0 := zn
   obtain ⟨gs, es, -, -⟩ := zaT h7.st.st (by rw [h7.st.nst]; have := P8.out; show 0 < s.status.length; omega)
   have ES := xH1 es
   have m6 : W3.cell? ⟨M, 6, none⟩ = some (.slice v'.st.a v'.st.n v'.st.c) := h7.fr.cell 0 6 rfl rfl
   rw [es] at m6
   have q1 := h7.stAt es (j : Int) (by have := TT.out; have := P8.out; show j < s.status.length; omega)
   have tm : (j : Int) < (v'.st.n : Int) := by rw [h7.st.nst]; have := TT.out; have := P8.out; show (j : Int) < (s.status.length : Int); omega
   have h8 := h7.setSt es (j : Int) 1
   have hu7 := hu6.touch ((zm.refl [gs] W3).set (v := .int .i64 1) (b := gs) (j := (j : Int).toNat) (by simp)) (fun b hb => by obtain rfl := xS1 hb; exact StV.mem_st (by rw [ES.out]; rfl))
   rw [show ((j : Nat) : Int).toNat = j from rfl] at h8 q1 hu7
   clear es h7 hu6
   go_wp2_with fail
   refine (zav w _ _ M u p v' _ _ false za 0 zc [] h8 HP.out HVS.out hu7 (by simp) (by have h9 := P8.out; refine ⟨h9.1, h9.2.1, ?_⟩; show s.places.length = (s.status.set _ _).length; rw [List.length_set]; exact h9.2.2) (by simp) PL8.out).mono ?_
   rintro e Wb ⟨rfl, h, -⟩
   clear h8 hu7 m6 q1 tm
   obtain ⟨vv, hvv⟩ : ∃ x, x = v' := ⟨_, rfl⟩
   rw [← hvv] at h
   clear hvv
  rotate_left
  focus
   have HE : Hid (zI p s j = goAll p (setBar s i2 y) (l0 :: l1)) := xH1 (by
    unfold zI
    rw [← HO.out]
    show doCome p s j ⟨7, ((i2 : Nat) : Int), ar⟩ = _
    unfold doCome
    dsimp only
    rw [show ((i2 : Nat) : Int).toNat = i2 from rfl, ← HX.out, HM.out]
    exact if_neg (by simp))
   have zn1 : ((z.n : Nat) : Int) ≠ 0 := by rw [zn]; simp only [List.length_cons]; omega
   clear zn
   go_wp2_with fail
   refine (zav w _ _ M u p v' _ _ false z.a z.n z.c (l0 :: l1) h7 HP.out HVS.out hu6 HTO.out.1 P8.out HTO.out.2 PL8.out).mono ?_
   rintro e Wb ⟨rfl, h, -⟩
   clear h7 hu6 zn1
   obtain ⟨vv, hvv⟩ : ∃ x, x = v' := ⟨_, rfl⟩
   rw [← hvv] at h
   clear hvv
  rotate_left
 rotate_left 2
 focus
  obtain ⟨on0, on1⟩ := zbO HOV.out
  rw [show zv p (8 : Int) = p.rooms.length by unfold zv; rw [if_neg (by omega), if_neg (by omega), if_neg (by omega), if_neg (by omega), if_neg (by omega)]] at on1
  dsimp only at on0 on1
  obtain ⟨i2, rfl⟩ : ∃ z : Nat, on = z := ⟨on.toNat, by omega⟩
  have hi : i2 < s.chans.length := by rw [HF.out.nch]; omega
  have HI := xH1 hi
  obtain ⟨b1, o1, ea, g'⟩ := HS.out.ch.rd.flat zc8 zcw (by rw [HS.out.inn.ch.len]; have := hi; omega) (by decide)
  obtain ⟨⟨x, q⟩, hxq⟩ : ∃ y, y = L.ch.getD i2 zcw := ⟨_, rfl⟩
  have hx : x = s.chans.getD i2 zy := by have := HS.out.inn.ch.fst zy (nilV, nilV, nilV) i2; rw [← this]; exact congrArg Prod.fst hxq
  have hR := HS.out.inn.ch.at zy (nilV, nilV, nilV) (i := i2) hi
  replace g' := g' i2 (by rw [HS.out.inn.ch.len]; exact hi)
  rw [← hxq] at g'
  rw [show L.ch.getD i2 (zy, _) = (x, q) from hxq.symm, ← hx] at hR
  have HX := xH1 hx
  have g0 : w.cell? ⟨b1, o1 + i2 * 5, none⟩ = some (.int .i64 x.room) := by have := g' 0 (by decide); simpa [chnC] using this
  have g1 : w.cell? ⟨b1, o1 + i2 * 5 + 1, none⟩ = some (.slice q.1.a q.1.n q.1.c) := by have := g' 1 (by decide); simpa [chnC] using this
  have g2 : w.cell? ⟨b1, o1 + i2 * 5 + 2, none⟩ = some (.slice q.2.1.a q.2.1.n q.2.1.c) := by have := g' 2 (by decide); simpa [chnC] using this
  have g3 : w.cell? ⟨b1, o1 + i2 * 5 + 3, none⟩ = some (.slice q.2.2.a q.2.2.n q.2.2.c) := by have := g' 3 (by decide); simpa [chnC] using this
  have g4 : w.cell? ⟨b1, o1 + i2 * 5 + 4, none⟩ = some (.bool x.closed) := by have := g' 4 (by decide); simpa [chnC] using this
  have Q0 := xH1 ((show SlR [] w q.1 (ints x.items) x.items.length from hR.1).rd)
  have QL0 := xH1 (show SlR [] w q.1 (ints x.items) x.items.length from hR.1).len
  have QC0 := xH1 (show SlR [] w q.1 (ints x.items) x.items.length from hR.1).cap
  have Q1 := xH1 ((show SlR [] w q.2.1 (zH x.senders) x.senders.length from hR.2.1).rd)
  have QL1 := xH1 (show SlR [] w q.2.1 (zH x.senders) x.senders.length from hR.2.1).len
  have QC1 := xH1 (show SlR [] w q.2.1 (zH x.senders) x.senders.length from hR.2.1).cap
  have Q2 := xH1 ((show SlR [] w q.2.2 (ints x.getters) x.getters.length from hR.2.2).rd)
  have QL2 := xH1 (show SlR [] w q.2.2 (ints x.getters) x.getters.length from hR.2.2).len
  have QC2 := xH1 (show SlR [] w q.2.2 (ints x.getters) x.getters.length from hR.2.2).cap
  clear g' hx hxq hR
  have HOK := xH1 (HF.out.ch i2 hi)
  rw [← HX.out] at HOK
  have j0 : (0 : Int) ≤ (i2 : Int) := by omega
  have j1 : (i2 : Int) < (v.ch.n : Int) := by rw [HS.out.ch.len]; omega
  have EA := xH1 ea
  replace g0 := zd h.fr.bel g0
  replace g1 := zd h.fr.bel g1
  replace g2 := zd h.fr.bel g2
  replace g3 := zd h.fr.bel g3
  replace g4 := zd h.fr.bel g4
  clear hi ea on0 on1
  have hno : (j : Int) ∉ oT s := NOT.out.resolve_right (by decide)
  have HNS : Hid ((j : Int) ∉ x.senders.map (·.1)) := xH1 (fun hm => by
   obtain ⟨z, hz, e⟩ := List.mem_map.1 hm
   exact HT.out.ne (by rw [← e]; exact zfw HI.out z (by rw [← HX.out]; exact hz)))
  have HNG : Hid ((j : Int) ∉ x.getters) := xH1 (fun hm => HT.out.ne (List.mem_map.2 ⟨((j : Int), 9, ((i2 : Nat) : Int), 0), zbA HI.out (by rw [← HX.out]; exact xQ1 (.inr (List.mem_map.2 ⟨_, hm, rfl⟩))), rfl⟩))
  have HSAY : Hid (s.said.length < 64) := xH1 (by have h1 := HR.out.said; have h2 := HF.out.sum32; omega)
  clear hno
  have hval := zfK HOV.out (.inr (.inr rfl))
  dsimp only at hval
  have HV := xH1 hval
  obtain ⟨bb, hbb⟩ : ∃ b, b = (zaY x j ar).isSome := ⟨_, rfl⟩
  have HBB := xH1 hbb
  clear hval hbb
  go_upto_region 55 with fail
  go_wp2_with fail
  obtain ⟨u3, rfl⟩ : ∃ x, x = W := ⟨_, rfl⟩
  refine zcP 19 95 16 (by kernel_rfl) (by kernel_rfl) [isV (.pointer (some ⟨w.heap.size + 1, 6, none⟩)), isV (.slice v.ch.a v.ch.n v.ch.c), isV (.pointer (some ⟨bo, 1, none⟩)), isV (.int .i64 i2), isV (.pointer (some ⟨b1, o1 + i2 * 5, none⟩)), isV (.agg #[.int .i64 x.room, .slice q.1.a q.1.n q.1.c, .slice q.2.1.a q.2.1.n q.2.1.c, .slice q.2.2.a q.2.2.n q.2.2.c, .bool x.closed]), isV (.int .i64 j), isV (.pointer (some ⟨bo, 2, none⟩)), isV (.int .i64 ar), fun dz uz wz => (∃ (y : ChnD) (s1 s2 s3 z : SlV) (l : List Int) (sent : Bool), uz = .tuple #[.agg #[.int .i64 y.room, .slice s1.a s1.n s1.c, .slice s2.a s2.n s2.c, .slice s3.a s3.n s3.c, .bool y.closed], .slice z.a z.n z.c, .bool sent, .bool bb] ∧ SlN u3 wz s1 (ints y.items) y.items.length ∧ SlN u3 wz s2 (zH y.senders) y.senders.length ∧ SlN u3 wz s3 (ints y.getters) y.getters.length ∧ wz.ownsRow u3.heap.size 3 1 (.slice z.a z.n z.c) z.n (ints l) ∧ zaY x j ar = (if bb = true then some (y, l, sent) else none)), fun dz uz wz => (uz = (dz.getD 0 undef) ∧ ∃ (y : ChnD) (s1 s2 s3 z : SlV) (l : List Int) (sent : Bool), uz = .tuple #[.agg #[.int .i64 y.room, .slice s1.a s1.n s1.c, .slice s2.a s2.n s2.c, .slice s3.a s3.n s3.c, .bool y.closed], .slice z.a z.n z.c, .bool sent, .bool bb]), fun dz uz wz => (uz = zV (dz.getD 0 undef) 0 ∧ ∃ (y : ChnD) (s1 s2 s3 z : SlV) (l : List Int) (sent : Bool), uz = .agg #[.int .i64 y.room, .slice s1.a s1.n s1.c, .slice s2.a s2.n s2.c, .slice s3.a s3.n s3.c, .bool y.closed]), fun dz uz wz => (uz = zV (dz.getD 0 undef) 1 ∧ ∃ (y : ChnD) (s1 s2 s3 z : SlV) (l : List Int) (sent : Bool), uz = .slice z.a z.n z.c), fun dz uz wz => (uz = zV (dz.getD 0 undef) 2 ∧ ∃ (y : ChnD) (s1 s2 s3 z : SlV) (l : List Int) (sent : Bool), uz = .bool sent), fun dz uz wz => uz = .bool bb, fun dz uz wz => (∃ (g : Nat) (ds : Array Value), uz = .pointer (some ⟨g, 0, none⟩) ∧ ds.size = 5 ∧ Blk wz g ds 95 ∧ u3.heap.size ≤ g), fun dz uz wz => (∃ (g : Nat) (y : ChnD) (s1 s2 s3 z : SlV) (l : List Int) (sent : Bool), (dz.getD 0 undef) = .pointer (some ⟨g, 0, none⟩) ∧ (dz.getD 1 undef) = .agg #[.int .i64 y.room, .slice s1.a s1.n s1.c, .slice s2.a s2.n s2.c, .slice s3.a s3.n s3.c, .bool y.closed] ∧ Blk wz g #[.int .i64 y.room, .slice s1.a s1.n s1.c, .slice s2.a s2.n s2.c, .slice s3.a s3.n s3.c, .bool y.closed] 95), fun dz uz wz => uz = (dz.getD 0 undef), fun dz uz wz => uz = (dz.getD 0 undef)] ⟨pS, pS, pS, pS, pS, pS, pS, pS, pS, fun _ _ _ _ hb ⟨y, s1, s2, s3, z, l, sent, e, m0, m1, m2, m3, m4⟩ => ⟨y, s1, s2, s3, z, l, sent, e, m0.below hb, m1.below hb, m2.below hb, zj m3 hb, m4⟩, fun _ _ _ _ _ h => h, fun _ _ _ _ _ h => h, fun _ _ _ _ _ h => h, fun _ _ _ _ _ h => h, fun _ _ _ _ _ h => h, fun _ _ _ _ hb ⟨g, ds, e, hz, h, hs⟩ => ⟨g, ds, e, hz, h.below hb, hs⟩, fun _ _ _ _ hb ⟨g, y, s1, s2, s3, z, l, sent, e1, e2, h⟩ => ⟨g, y, s1, s2, s3, z, l, sent, e1, e2, h.below hb⟩, fun _ _ _ _ _ h => h, fun _ _ _ _ _ h => h, trivial⟩ ⟨.inr (pS), .inr (pS), .inr (pS), .inr (pS), .inr (pS), .inr (pS), .inr (pS), .inr (pS), .inr (pS), .inr (fun _ _ _ _ hT ⟨y, s1, s2, s3, z, l, sent, e, m0, m1, m2, m3, m4⟩ => ⟨y, s1, s2, s3, z, l, sent, e, m0.ts hT (by decide), m1.ts hT (by decide), m2.ts hT (by decide), zfU m3 hT (by decide), m4⟩), .inr (fun _ _ _ _ _ h => h), .inr (fun _ _ _ _ _ h => h), .inr (fun _ _ _ _ _ h => h), .inr (fun _ _ _ _ _ h => h), .inr (fun _ _ _ _ _ h => h), .inr (fun _ _ _ _ hT ⟨g, ds, e, hz, h, hs⟩ => ⟨g, (hT.prg g ds h).choose, e, (hT.prg g ds h).choose_spec.1.trans hz, (hT.prg g ds h).choose_spec.2, hs⟩), .inl rfl, .inr (fun _ _ _ _ _ h => h), .inr (fun _ _ _ _ _ h => h), trivial⟩ ?_ ?_
  ·simp only [List.take_succ_cons, List.take_zero]
   refine ⟨?_, ?_, ?_, ?_, ?_, ?_, ?_, ?_, ?_, ?_, ?_, ?_, ?_, ?_, ?_, ?_, ?_, ?_, ?_, trivial⟩
   all_goals (intro ρ w1 L hG hny hfr hd; obtain ⟨fc, ff⟩ := fcff hfr; have f4 : ρ (.tmp 4) = .pointer (some ⟨w.heap.size + 1, 0, none⟩) := hfr _ rfl; have f9 : ρ (.tmp 9) = .pointer (some ⟨bo, 0, none⟩) := hfr _ rfl; have f2 : ρ (.tmp 2) = .int .i64 j := hfr _ rfl; have F1 := h.fr.call hG; have cs := F1.c9 3 rfl; have co := F1.c3 1 rfl; have g0 := (fun _ => zd hG g0) F1; have g1 := (fun _ => zd hG g1) F1; have g2 := (fun _ => zd hG g2) F1; have g3 := (fun _ => zd hG g3) F1; have g4 := (fun _ => zd hG g4) F1; clear F1)
   ·exact gvT hG (by go_simp) rfl xN1
   ·obtain ⟨d0, -⟩ := hd
    have d0 : ρ (.tmp 342) = _ := d0
    exact gvT hG (by go_simp) rfl xN1
   ·exact gvT hG (by go_simp) rfl xN1
   ·obtain ⟨d0, -⟩ := hd
    have d0 : ρ (.tmp 344) = _ := d0
    exact gvT hG (by go_simp) rfl xN1
   ·obtain ⟨d0, d1, -⟩ := hd
    have d0 : ρ (.tmp 343) = _ := d0
    have d1 : ρ (.tmp 345) = _ := d1
    rw [EA.out] at d0
    exact gvT hG (by go_simp) rfl xN1
   ·obtain ⟨d0, -⟩ := hd
    have d0 : ρ (.tmp 346) = _ := d0
    exact gvT hG (by go_simp) rfl xN1
   ·exact gvT hG (by go_simp) rfl xN1
   ·exact gvT hG (by go_simp) rfl xN1
   ·obtain ⟨d0, -⟩ := hd
    have d0 : ρ (.tmp 349) = _ := d0
    exact gvT hG (by go_simp) rfl xN1
   ·obtain ⟨d0, d1, d2, -⟩ := hd
    have d0 : ρ (.tmp 347) = _ := d0
    have d1 : ρ (.tmp 348) = _ := d1
    have d2 : ρ (.tmp 350) = _ := d2
    refine zL (by go_simp; exact ⟨⟨rfl, rfl⟩, rfl⟩) ?_
    refine (zgA x q.1.a q.2.1.a q.2.2.a q.1.n q.1.c q.2.1.n q.2.1.c q.2.2.n q.2.2.c j ar w1 QL0.out.symm QL1.out.symm QL2.out.symm ((h.fr.call hG).rd Q0.out) ((h.fr.call hG).rd Q1.out) ((h.fr.call hG).rd Q2.out) HOK.out.1 T6.out HV.out HNS.out HNG.out).mono ?_
    rintro e w2 ⟨y, s1, s2, s3, z, l, sent, b, hy, rfl, hr1, hr2, hr3, hz, hb⟩
    obtain rfl : b = bb := by rw [HBB.out, hy]; cases b <;> rfl
    exact ⟨_, rfl, zD (by decide) hb, ⟨y, s1, s2, s3, z, l, sent, rfl, hr1.mono hG.size, hr2.mono hG.size, hr3.mono hG.size, zu hz hG.size, hy⟩, xN1, hG.trans (hb.mono hG.size)⟩
   ·obtain ⟨d0, -⟩ := hd
    have d0 : (∃ (y : ChnD) (s1 s2 s3 z : SlV) (l : List Int) (sent : Bool), (ρ (.tmp 351)) = .tuple #[.agg #[.int .i64 y.room, .slice s1.a s1.n s1.c, .slice s2.a s2.n s2.c, .slice s3.a s3.n s3.c, .bool y.closed], .slice z.a z.n z.c, .bool sent, .bool bb] ∧ SlN u3 w1 s1 (ints y.items) y.items.length ∧ SlN u3 w1 s2 (zH y.senders) y.senders.length ∧ SlN u3 w1 s3 (ints y.getters) y.getters.length ∧ w1.ownsRow u3.heap.size 3 1 (.slice z.a z.n z.c) z.n (ints l) ∧ zaY x j ar = (if bb = true then some (y, l, sent) else none)) := d0
    obtain ⟨y, s1, s2, s3, z, l, sent, d0, -⟩ := d0
    refine zf (u := .tuple #[.agg #[.int .i64 y.room, .slice s1.a s1.n s1.c, .slice s2.a s2.n s2.c, .slice s3.a s3.n s3.c, .bool y.closed], .slice z.a z.n z.c, .bool sent, .bool bb]) (w' := w1) (by go_simp) ⟨zD (by decide) xB1, ⟨d0.symm, ⟨y, s1, s2, s3, z, l, sent, rfl⟩⟩, xN1, hG⟩
   ·obtain ⟨d0, -⟩ := hd
    have d0 : ((ρ (.tmp 341)) = (ρ (.tmp 351)) ∧ ∃ (y : ChnD) (s1 s2 s3 z : SlV) (l : List Int) (sent : Bool), (ρ (.tmp 341)) = .tuple #[.agg #[.int .i64 y.room, .slice s1.a s1.n s1.c, .slice s2.a s2.n s2.c, .slice s3.a s3.n s3.c, .bool y.closed], .slice z.a z.n z.c, .bool sent, .bool bb]) := d0
    obtain ⟨y, s1, s2, s3, z, l, sent, d1⟩ := d0.2
    clear d0
    refine zf (u := .agg #[.int .i64 y.room, .slice s1.a s1.n s1.c, .slice s2.a s2.n s2.c, .slice s3.a s3.n s3.c, .bool y.closed]) (w' := w1) (by go_simp) ⟨zD (by decide) xB1, ⟨by show (.agg #[.int .i64 y.room, .slice s1.a s1.n s1.c, .slice s2.a s2.n s2.c, .slice s3.a s3.n s3.c, .bool y.closed] : Value) = zV (ρ (.tmp 341)) 0; rw [d1]; rfl, ⟨y, s1, s2, s3, z, l, sent, rfl⟩⟩, xN1, hG⟩
   ·obtain ⟨d0, -⟩ := hd
    have d0 : ((ρ (.tmp 341)) = (ρ (.tmp 351)) ∧ ∃ (y : ChnD) (s1 s2 s3 z : SlV) (l : List Int) (sent : Bool), (ρ (.tmp 341)) = .tuple #[.agg #[.int .i64 y.room, .slice s1.a s1.n s1.c, .slice s2.a s2.n s2.c, .slice s3.a s3.n s3.c, .bool y.closed], .slice z.a z.n z.c, .bool sent, .bool bb]) := d0
    obtain ⟨y, s1, s2, s3, z, l, sent, d1⟩ := d0.2
    clear d0
    refine zf (u := .slice z.a z.n z.c) (w' := w1) (by go_simp) ⟨zD (by decide) xB1, ⟨by show (.slice z.a z.n z.c : Value) = zV (ρ (.tmp 341)) 1; rw [d1]; rfl, ⟨y, s1, s2, s3, z, l, sent, rfl⟩⟩, xN1, hG⟩
   ·obtain ⟨d0, -⟩ := hd
    have d0 : ((ρ (.tmp 341)) = (ρ (.tmp 351)) ∧ ∃ (y : ChnD) (s1 s2 s3 z : SlV) (l : List Int) (sent : Bool), (ρ (.tmp 341)) = .tuple #[.agg #[.int .i64 y.room, .slice s1.a s1.n s1.c, .slice s2.a s2.n s2.c, .slice s3.a s3.n s3.c, .bool y.closed], .slice z.a z.n z.c, .bool sent, .bool bb]) := d0
    obtain ⟨y, s1, s2, s3, z, l, sent, d1⟩ := d0.2
    clear d0
    refine zf (u := .bool sent) (w' := w1) (by go_simp) ⟨zD (by decide) xB1, ⟨by show (.bool sent : Value) = zV (ρ (.tmp 341)) 2; rw [d1]; rfl, ⟨y, s1, s2, s3, z, l, sent, rfl⟩⟩, xN1, hG⟩
   ·obtain ⟨d0, -⟩ := hd
    have d0 : ((ρ (.tmp 341)) = (ρ (.tmp 351)) ∧ ∃ (y : ChnD) (s1 s2 s3 z : SlV) (l : List Int) (sent : Bool), (ρ (.tmp 341)) = .tuple #[.agg #[.int .i64 y.room, .slice s1.a s1.n s1.c, .slice s2.a s2.n s2.c, .slice s3.a s3.n s3.c, .bool y.closed], .slice z.a z.n z.c, .bool sent, .bool bb]) := d0
    obtain ⟨y, s1, s2, s3, z, l, sent, d1⟩ := d0.2
    clear d0
    refine zf (u := .bool bb) (w' := w1) (by go_simp) ⟨zD (by decide) xB1, rfl, xN1, hG⟩
   ·refine zf (u := .pointer (some ⟨w1.heap.size, 0, none⟩)) (w' := w1.alloc (.cells #[.int .i64 0, .slice none 0 0, .slice none 0 0, .slice none 0 0, .bool false] 95)) (by go_simp) ⟨zD (by decide) (xA1), ⟨_, _, rfl, rfl, Blk.new _ _ _, hG.size⟩, xN1, hG.alloc hG.size _⟩
   ·obtain ⟨d0, d1, -⟩ := hd
    have d0 : (∃ (g : Nat) (ds : Array Value), (ρ (.tmp 32)) = .pointer (some ⟨g, 0, none⟩) ∧ ds.size = 5 ∧ Blk w1 g ds 95 ∧ u3.heap.size ≤ g) := d0
    have d1 : ((ρ (.tmp 352)) = zV (ρ (.tmp 341)) 0 ∧ ∃ (y : ChnD) (s1 s2 s3 z : SlV) (l : List Int) (sent : Bool), (ρ (.tmp 352)) = .agg #[.int .i64 y.room, .slice s1.a s1.n s1.c, .slice s2.a s2.n s2.c, .slice s3.a s3.n s3.c, .bool y.closed]) := d1
    obtain ⟨g, ds, e10, hz, hB, hgs⟩ := d0
    obtain ⟨c0, c1, c2, c3, c4, rfl⟩ := arr5 hz
    obtain ⟨y, s1, s2, s3, z, l, sent, d1'⟩ := d1.2
    clear d1
    have d1 := d1'
    have z0 := hB.cell 0 rfl
    have y0 := hB.fz 0
    have z1 := hB.cell 1 rfl
    have y1 := hB.fz 1
    have z2 := hB.cell 2 rfl
    have y2 := hB.fz 2
    have z3 := hB.cell 3 rfl
    have y3 := hB.fz 3
    have z4 := hB.cell 4 rfl
    have y4 := hB.fz 4
    have hst : TS 95 u3.heap.size w1 (((((w1.setCell ⟨g, 0, none⟩ (.int .i64 y.room)).setCell ⟨g, 1, none⟩ (.slice s1.a s1.n s1.c)).setCell ⟨g, 2, none⟩ (.slice s2.a s2.n s2.c)).setCell ⟨g, 3, none⟩ (.slice s3.a s3.n s3.c)).setCell ⟨g, 4, none⟩ (.bool y.closed)) := TS.all [.int .i64 y.room, .slice s1.a s1.n s1.c, .slice s2.a s2.n s2.c, .slice s3.a s3.n s3.c, .bool y.closed] 0 hB hgs
    have hkk : Blk (((((w1.setCell ⟨g, 0, none⟩ (.int .i64 y.room)).setCell ⟨g, 1, none⟩ (.slice s1.a s1.n s1.c)).setCell ⟨g, 2, none⟩ (.slice s2.a s2.n s2.c)).setCell ⟨g, 3, none⟩ (.slice s3.a s3.n s3.c)).setCell ⟨g, 4, none⟩ (.bool y.closed)) g #[.int .i64 y.room, .slice s1.a s1.n s1.c, .slice s2.a s2.n s2.c, .slice s3.a s3.n s3.c, .bool y.closed] 95 := (Blk.set (Blk.set (Blk.set (Blk.set (Blk.set hB 0 (.int .i64 y.room)) 1 (.slice s1.a s1.n s1.c)) 2 (.slice s2.a s2.n s2.c)) 3 (.slice s3.a s3.n s3.c)) 4 (.bool y.closed))
    refine zdu (w' := (((((w1.setCell ⟨g, 0, none⟩ (.int .i64 y.room)).setCell ⟨g, 1, none⟩ (.slice s1.a s1.n s1.c)).setCell ⟨g, 2, none⟩ (.slice s2.a s2.n s2.c)).setCell ⟨g, 3, none⟩ (.slice s3.a s3.n s3.c)).setCell ⟨g, 4, none⟩ (.bool y.closed))) (by go_simp) ⟨zdm hst, ⟨g, y, s1, s2, s3, z, l, sent, e10, d1, hkk⟩, xN1, hG.trans hst.bel⟩
   ·obtain ⟨d0, -⟩ := hd
    have d0 : ((ρ (.tmp 353)) = zV (ρ (.tmp 341)) 1 ∧ ∃ (y : ChnD) (s1 s2 s3 z : SlV) (l : List Int) (sent : Bool), (ρ (.tmp 353)) = .slice z.a z.n z.c) := d0
    obtain ⟨y, s1, s2, s3, z, l, sent, d1⟩ := d0.2
    clear d0
    have d0 := d1
    refine zf (u := .slice z.a z.n z.c) (w' := w1) (by go_simp) ⟨zD (by decide) xB1, d0.symm, xN1, hG⟩
   ·obtain ⟨d0, -⟩ := hd
    have d0 : ((ρ (.tmp 354)) = zV (ρ (.tmp 341)) 2 ∧ ∃ (y : ChnD) (s1 s2 s3 z : SlV) (l : List Int) (sent : Bool), (ρ (.tmp 354)) = .bool sent) := d0
    obtain ⟨y, s1, s2, s3, z, l, sent, d1⟩ := d0.2
    clear d0
    have d0 := d1
    refine zf (u := .bool sent) (w' := w1) (by go_simp) ⟨zD (by decide) xB1, d0.symm, xN1, hG⟩
  intro vs w2 hG hlen hall
  obtain ⟨xv0, xv1, xv2, xv3, xv4, xv5, xv6, xv7, xv8, xv9, xv10, xv11, xv12, xv13, xv14, xv15, xv16, xv17, xv18, rfl⟩ := zkw hlen
  clear hlen
  simp only [List.take_succ_cons, List.take_zero, List.drop_succ_cons, List.drop_zero] at hall ⊢
  obtain ⟨hv0, hv1, hv2, hv3, hv4, hv5, hv6, hv7, hv8, hv9, hv10, hv11, hv12, hv13, hv14, hv15, hv16, hv17, hv18, -⟩ := hall
  replace hv9 : (∃ (y : ChnD) (s1 s2 s3 z : SlV) (l : List Int) (sent : Bool), xv9 = .tuple #[.agg #[.int .i64 y.room, .slice s1.a s1.n s1.c, .slice s2.a s2.n s2.c, .slice s3.a s3.n s3.c, .bool y.closed], .slice z.a z.n z.c, .bool sent, .bool bb] ∧ SlN u3 w2 s1 (ints y.items) y.items.length ∧ SlN u3 w2 s2 (zH y.senders) y.senders.length ∧ SlN u3 w2 s3 (ints y.getters) y.getters.length ∧ w2.ownsRow u3.heap.size 3 1 (.slice z.a z.n z.c) z.n (ints l) ∧ zaY x j ar = (if bb = true then some (y, l, sent) else none)) := hv9
  replace hv10 : (xv10 = xv9 ∧ ∃ (y : ChnD) (s1 s2 s3 z : SlV) (l : List Int) (sent : Bool), xv10 = .tuple #[.agg #[.int .i64 y.room, .slice s1.a s1.n s1.c, .slice s2.a s2.n s2.c, .slice s3.a s3.n s3.c, .bool y.closed], .slice z.a z.n z.c, .bool sent, .bool bb]) := hv10
  replace hv11 : (xv11 = zV xv10 0 ∧ ∃ (y : ChnD) (s1 s2 s3 z : SlV) (l : List Int) (sent : Bool), xv11 = .agg #[.int .i64 y.room, .slice s1.a s1.n s1.c, .slice s2.a s2.n s2.c, .slice s3.a s3.n s3.c, .bool y.closed]) := hv11
  replace hv12 : (xv12 = zV xv10 1 ∧ ∃ (y : ChnD) (s1 s2 s3 z : SlV) (l : List Int) (sent : Bool), xv12 = .slice z.a z.n z.c) := hv12
  replace hv13 : (xv13 = zV xv10 2 ∧ ∃ (y : ChnD) (s1 s2 s3 z : SlV) (l : List Int) (sent : Bool), xv13 = .bool sent) := hv13
  replace hv15 : (∃ (g : Nat) (ds : Array Value), xv15 = .pointer (some ⟨g, 0, none⟩) ∧ ds.size = 5 ∧ Blk w2 g ds 95 ∧ u3.heap.size ≤ g) := hv15
  replace hv16 : (∃ (g : Nat) (y : ChnD) (s1 s2 s3 z : SlV) (l : List Int) (sent : Bool), xv15 = .pointer (some ⟨g, 0, none⟩) ∧ xv11 = .agg #[.int .i64 y.room, .slice s1.a s1.n s1.c, .slice s2.a s2.n s2.c, .slice s3.a s3.n s3.c, .bool y.closed] ∧ Blk w2 g #[.int .i64 y.room, .slice s1.a s1.n s1.c, .slice s2.a s2.n s2.c, .slice s3.a s3.n s3.c, .bool y.closed] 95) := hv16
  replace hv17 : xv17 = xv12 := hv17
  replace hv18 : xv18 = xv13 := hv18
  obtain rfl : xv0 = _ := hv0
  obtain rfl : xv1 = _ := hv1
  obtain rfl : xv2 = _ := hv2
  obtain rfl : xv3 = _ := hv3
  obtain rfl : xv4 = _ := hv4
  obtain rfl : xv5 = _ := hv5
  obtain rfl : xv6 = _ := hv6
  obtain rfl : xv7 = _ := hv7
  obtain rfl : xv8 = _ := hv8
  obtain rfl : xv14 = _ := hv14
  obtain ⟨y, s1, s2, s3, z, l, sent, rfl, hm0, hm1, hm2, hm3, hm4⟩ := hv9
  obtain ⟨rfl, -⟩ := hv10
  have he11 : xv11 = .agg #[.int .i64 y.room, .slice s1.a s1.n s1.c, .slice s2.a s2.n s2.c, .slice s3.a s3.n s3.c, .bool y.closed] := by simpa [zV] using hv11.1
  subst he11
  have he12 : xv12 = .slice z.a z.n z.c := by simpa [zV] using hv12.1
  subst he12
  have he13 : xv13 = .bool sent := by simpa [zV] using hv13.1
  subst he13
  subst hv17
  subst hv18
  obtain ⟨gA1, dA1, rfl, -, -, hgA1⟩ := hv15
  obtain ⟨gA2, y2, s12, s22, s32, z2, l2, sent2, e1, e2, kN⟩ := hv16
  obtain rfl : gA1 = gA2 := by simpa using e1
  have e3 : (#[.int .i64 y.room, .slice s1.a s1.n s1.c, .slice s2.a s2.n s2.c, .slice s3.a s3.n s3.c, .bool y.closed] : Array Value) = #[.int .i64 y2.room, .slice s12.a s12.n s12.c, .slice s22.a s22.n s22.c, .slice s32.a s32.n s32.c, .bool y2.closed] := by
   have h1 : Value.agg #[.int .i64 y.room, .slice s1.a s1.n s1.c, .slice s2.a s2.n s2.c, .slice s3.a s3.n s3.c, .bool y.closed] = .agg #[.int .i64 y2.room, .slice s12.a s12.n s12.c, .slice s22.a s22.n s22.c, .slice s32.a s32.n s32.c, .bool y2.closed] := e2
   injection h1
  rw [← e3] at kN
  clear e1 e2 e3 hv11 hv12 hv13
  simp only [z9, Act.put, List.setIfInBounds_toArray, List.set_cons_succ, List.set_cons_zero]
  have hu : SlR v'.blks w2 z (ints l) l.length := zeu h hm3
  have hq : chnR (zZ (.blk M (mC u v' false) 105 :: .blk bo #[.int .i64 8, .int .i64 (i2 : Int), .int .i64 ar] 44 :: sb3 w u v zC) ++ v'.blks) w2 y (s1, s2, s3) := ⟨h.apart hm0, h.apart hm1, h.apart hm2⟩
  replace h := h.call hG
  clear g0 g1 g2 g3 g4 hG hm0 hm1 hm2 hm3
  cases bb
  ·clear hu hq kN
   rw [if_neg (by decide)] at hm4
   have HE : Hid (zI p s j = zbl s 3) := xH1 (by
    unfold zI
    rw [← HO.out]
    show doSend p s j ⟨8, ((i2 : Nat) : Int), ar⟩ = _
    unfold doSend
    dsimp only
    rw [show ((i2 : Nat) : Int).toNat = i2 from rfl, ← HX.out, hm4])
   go_wp2_with fail
   refine (zdw (w.heap.size + 1) 3 v L s _ (h.fr.blk 3 rfl) (HS.out.below h.bel) HF.out.sm).mono ?_
   rintro e Wc ⟨v2, L2, rfl, ho, hn, hb⟩
   have HN2 := NewB.lower hn h.bel.size
   have g := Sf.gain h.fr ho hn hb
   clear ho hn hb h
   have cz := g.c9 2 rfl
   have g2 := g.set9 2 rfl (.slice v2.pl.a v2.pl.n v2.pl.c) (.slice v2.st.a v2.st.n v2.st.c) (.slice v2.se.a v2.se.n v2.se.c) (.slice v2.on.a v2.on.n v2.on.c) (.slice v2.gr.a v2.gr.n v2.gr.c) (.slice v2.ba.a v2.ba.n v2.ba.c) (.slice v2.ch.a v2.ch.n v2.ch.c) (.slice v2.sa.a v2.sa.n v2.sa.c) (.int .i64 v2.fl)
   go_wp2
   exact bodyPost_ret (v := .tuple #[.agg #[.slice v2.pl.a v2.pl.n v2.pl.c, .slice v2.st.a v2.st.n v2.st.c, .slice v2.se.a v2.se.n v2.se.c, .slice v2.on.a v2.on.n v2.on.c, .slice v2.gr.a v2.gr.n v2.gr.c, .slice v2.ba.a v2.ba.n v2.ba.c, .slice v2.ch.a v2.ch.n v2.ch.c, .slice v2.sa.a v2.sa.n v2.sa.c, .int .i64 v2.fl], .bool true]) (by simp [results, Try.results36, go_sem, g2.c9 2 rfl]) rfl ⟨v2, L2, rfl, by rw [HE.out]; exact g2.st.sub (by simp), HN2, g2.bel⟩
  rw [if_pos rfl] at hm4
  have HM := xH1 hm4
  have htl := zjc HF.out HI.out (t := (j : Int)) (v := ar) (y := y) (l := l) (b := sent) (by rw [← HX.out]; exact hm4)
  have HTO : Hid (Told p s l) := xH1 htl.1
  have hl2 := htl.2
  clear hm4 htl
  obtain ⟨gt, eg, -, -⟩ := zaT h.st.ch (by rw [h.st.nch]; have := HI.out; omega)
  have EG := xH1 eg
  have ownP := h.st.ch
  rw [show v'.ch.val = .slice (some ⟨gt, 0, none⟩) v'.ch.n v'.ch.c by rw [← EG.out]] at ownP
  have fz0 := ownP.frozenAt (i2 * 5)
  have fz1 := ownP.frozenAt (i2 * 5 + 1)
  have fz2 := ownP.frozenAt (i2 * 5 + 2)
  have fz3 := ownP.frozenAt (i2 * 5 + 3)
  have fz4 := ownP.frozenAt (i2 * 5 + 4)
  obtain ⟨y0, cg0⟩ := zQ ownP (i2 * 5) (by have := HI.out; have := h.st.nch; omega)
  obtain ⟨y1, cg1⟩ := zQ ownP (i2 * 5 + 1) (by have := HI.out; have := h.st.nch; omega)
  obtain ⟨y2, cg2⟩ := zQ ownP (i2 * 5 + 2) (by have := HI.out; have := h.st.nch; omega)
  obtain ⟨y3, cg3⟩ := zQ ownP (i2 * 5 + 3) (by have := HI.out; have := h.st.nch; omega)
  obtain ⟨y4, cg4⟩ := zQ ownP (i2 * 5 + 4) (by have := HI.out; have := h.st.nch; omega)
  have hP := h.st.put_ch (g := gt) EG.out i2 HI.out (x := y) (q := (s1, s2, s3)) hq
  have hgm : gt ∈ v'.blks := StV.mem_ch (by rw [EG.out]; rfl)
  have h6 := h.put hgm hP
  have hu6 := (hu.touch hP.2 (fun b hb => by obtain rfl := xS1 hb; exact hgm)).drew
  clear hP hgm hu
  have qm : World.cell? _ ⟨M, 11, none⟩ = some (.slice v'.ch.a v'.ch.n v'.ch.c) := h.fr.cell 0 11 rfl rfl
  rw [EG.out] at qm
  have co := h.fr.c3 1 rfl
  have n0 := kN.cell 0 rfl
  have n1 := kN.cell 1 rfl
  have n2 := kN.cell 2 rfl
  have n3 := kN.cell 3 rfl
  have n4 := kN.cell 4 rfl
  have j2 : (i2 : Int) < (v'.ch.n : Int) := by rw [h.st.nch]; have := HI.out; omega
  clear ownP eg
  go_wp2
  go_still_tail 9, (by kernel_rfl)
  go_upto_region 59 with fail
  obtain ⟨W3, hw, h7⟩ := h6.drew.named
  rw [← hw]
  rw [← hw] at hu6
  clear h6 h hw kN co qm hq n0 fz0 cg0 n1 fz1 cg1 n2 fz2 cg2 n3 fz3 cg3 n4 fz4 cg4
  have zn := hu6.len
  obtain ⟨za, zn', zc⟩ := z
  rcases hl2 with rfl | ⟨g, rfl, rfl⟩
  focus
   have HE : Hid (zI p s j = za1 p (setChn s i2 y) j sent) := xH1 (by
    unfold zI
    rw [← HO.out]
    show doSend p s j ⟨8, ((i2 : Nat) : Int), ar⟩ = _
    unfold doSend
    dsimp only
    rw [show ((i2 : Nat) : Int).toNat = i2 from rfl, ← HX.out, HM.out]
    rfl)
   obtain rfl : zn' = 0 := zn
   clear hu6
   go_wp2_with fail
   go_loopw [373] (fun i wr => i = .int .i64 0 ∧ wr = W3) (fun _ _ => 0)
   case atStart => exact ⟨rfl, rfl⟩
   case' round =>
    obtain ⟨rfl, rfl⟩ := hrel
    go_wp2_with fail
    refine (zbL w _ _ M u p v' _ _ false j _ h7 HP.out HVS.out P8.out TT.out PL8.out).mono ?_
    rintro e Wb ⟨rfl, h⟩
    clear h7
    obtain ⟨vv, hvv⟩ : ∃ x, x = v' := ⟨_, rfl⟩
    rw [← hvv] at h
    clear hvv
  rotate_left
  focus
   have HE : Hid (zI p s j = za1 p (goAll p (sayIt (setChn s i2 y) ar) [g]) j true) := xH1 (by
    unfold zI
    rw [← HO.out]
    show doSend p s j ⟨8, ((i2 : Nat) : Int), ar⟩ = _
    unfold doSend
    dsimp only
    rw [show ((i2 : Nat) : Int).toNat = i2 from rfl, ← HX.out, HM.out]
    rfl)
   obtain rfl : zn' = 1 := zn
   obtain ⟨bz, oz, ez, gz'⟩ := hu6.rd.int (by simp)
   obtain rfl : za = some ⟨bz, oz, none⟩ := ez
   have gz : W3.cell? ⟨bz, oz, none⟩ = some (.int .i64 g) := gz' 0 (by simp)
   clear gz'
   have TG : Hid (0 ≤ g ∧ g < p.threads.length ∧ g < s.places.length) := xH1 (HTO.out.2 g (by simp))
   have PLB : Hid (∀ i, 0 ≤ (goAll p (sayIt (setChn s i2 y) ar) [g]).places.getD i 0 ∧ (goAll p (sayIt (setChn s i2 y) ar) [g]).places.getD i 0 ≤ 8) := xH1 (le8 (s := s) HST.out.fits (fun i => (PL8.out i).1) (fun i => (zaD [g] (sayIt (setChn s i2 y) ar) i).1) (fun i => by rw [HE.out]; exact zfO (p := p) _ (j : Int) true i))
   go_wp2_with fail
   go_loopw [373] (fun i wr => (i = .int .i64 0 ∧ wr = W3) ∨ (i = .int .i64 1 ∧ ∃ r LL, Sf w wr (.blk M (mC u { v' with sa := r } false) 105 :: .blk bo #[.int .i64 8, .int .i64 (i2 : Int), .int .i64 ar] 44 :: sb3 w u v zC) { v' with sa := r } LL (goAll p (sayIt (setChn s i2 y) ar) [g]))) (fun i _ => 1 - (intOf i).toNat)
   case atStart => exact .inl ⟨rfl, rfl⟩
   case' round =>
    rcases hrel with ⟨rfl, rfl⟩ | ⟨rfl, r, LL, h9⟩
    ·have co := h7.fr.c3 1 rfl
     have hsl : (setChn s i2 y).said.length < 64 := HSAY.out
     go_wp2_with fail
     refine (ze6 w _ _ M u v' _ _ false ar h7 hsl).mono ?_
     rintro e Wa ⟨rfl, r, h9⟩
     clear h7 hsl co gz
     have h2 := h9.alloc #[.int .i64 g] 3
     have hw : SlR (StV.blks { v' with sa := r }) (World.alloc Wa (.cells #[.int .i64 g] 3)) ⟨some ⟨Wa.heap.size, 0, none⟩, 1, 1⟩ (ints [g]) [g].length := ⟨rfl, Rd.of_blk (h2.fr.blk 0 rfl), .inr (fun b hb hm => by have h9 := (h9.st.from b hm).2; simp only [zi, Option.some.injEq] at hb; omega), Nat.le_refl _⟩
     go_wp2_with fail
     refine (zav w _ _ M u p { v' with sa := r } _ _ false _ 1 1 [g] (h2.pull 1 rfl) HP.out HVS.out hw (by simp) P8.out (fun z hz' => by obtain rfl := xS1 hz'; exact TG.out) PL8.out).mono ?_
     rintro e Wb ⟨rfl, h3, -⟩
     clear h2 hw h9
     have h := h3.sub (l' := .blk M (mC u { v' with sa := r } false) 105 :: .blk bo #[.int .i64 8, .int .i64 (i2 : Int), .int .i64 ar] 44 :: sb3 w u v zC) (.cons_cons _ (.cons _ (.refl _)))
     clear h3
     go_wp2
     exact ⟨.inr ⟨rfl, r, _, h⟩, by decide⟩
    go_wp2_with fail
    refine (zbL w _ _ M u p { v' with sa := r } _ _ false j _ h9 HP.out HVS.out (by rw [zaA, zbD]; exact P8.out) (by have := TT.out; rw [zaA]; exact this) PLB.out).mono ?_
    rintro e Wb ⟨rfl, h⟩
    clear h9
    obtain ⟨vv, hvv⟩ : ∃ x, x = { v' with sa := r } := ⟨_, rfl⟩
    rw [← hvv] at h
    clear hvv
  rotate_left
 rotate_left 2
 focus
  obtain ⟨on0, on1⟩ := zbO HOV.out
  rw [show zv p (9 : Int) = p.rooms.length by unfold zv; rw [if_neg (by omega), if_neg (by omega), if_neg (by omega), if_neg (by omega), if_neg (by omega)]] at on1
  dsimp only at on0 on1
  obtain ⟨i2, rfl⟩ : ∃ z : Nat, on = z := ⟨on.toNat, by omega⟩
  have hi : i2 < s.chans.length := by rw [HF.out.nch]; omega
  have HI := xH1 hi
  obtain ⟨b1, o1, ea, g'⟩ := HS.out.ch.rd.flat zc8 zcw (by rw [HS.out.inn.ch.len]; have := hi; omega) (by decide)
  obtain ⟨⟨x, q⟩, hxq⟩ : ∃ y, y = L.ch.getD i2 zcw := ⟨_, rfl⟩
  have hx : x = s.chans.getD i2 zy := by have := HS.out.inn.ch.fst zy (nilV, nilV, nilV) i2; rw [← this]; exact congrArg Prod.fst hxq
  have hR := HS.out.inn.ch.at zy (nilV, nilV, nilV) (i := i2) hi
  replace g' := g' i2 (by rw [HS.out.inn.ch.len]; exact hi)
  rw [← hxq] at g'
  rw [show L.ch.getD i2 (zy, _) = (x, q) from hxq.symm, ← hx] at hR
  have HX := xH1 hx
  have g0 : w.cell? ⟨b1, o1 + i2 * 5, none⟩ = some (.int .i64 x.room) := by have := g' 0 (by decide); simpa [chnC] using this
  have g1 : w.cell? ⟨b1, o1 + i2 * 5 + 1, none⟩ = some (.slice q.1.a q.1.n q.1.c) := by have := g' 1 (by decide); simpa [chnC] using this
  have g2 : w.cell? ⟨b1, o1 + i2 * 5 + 2, none⟩ = some (.slice q.2.1.a q.2.1.n q.2.1.c) := by have := g' 2 (by decide); simpa [chnC] using this
  have g3 : w.cell? ⟨b1, o1 + i2 * 5 + 3, none⟩ = some (.slice q.2.2.a q.2.2.n q.2.2.c) := by have := g' 3 (by decide); simpa [chnC] using this
  have g4 : w.cell? ⟨b1, o1 + i2 * 5 + 4, none⟩ = some (.bool x.closed) := by have := g' 4 (by decide); simpa [chnC] using this
  have Q0 := xH1 ((show SlR [] w q.1 (ints x.items) x.items.length from hR.1).rd)
  have QL0 := xH1 (show SlR [] w q.1 (ints x.items) x.items.length from hR.1).len
  have QC0 := xH1 (show SlR [] w q.1 (ints x.items) x.items.length from hR.1).cap
  have Q1 := xH1 ((show SlR [] w q.2.1 (zH x.senders) x.senders.length from hR.2.1).rd)
  have QL1 := xH1 (show SlR [] w q.2.1 (zH x.senders) x.senders.length from hR.2.1).len
  have QC1 := xH1 (show SlR [] w q.2.1 (zH x.senders) x.senders.length from hR.2.1).cap
  have Q2 := xH1 ((show SlR [] w q.2.2 (ints x.getters) x.getters.length from hR.2.2).rd)
  have QL2 := xH1 (show SlR [] w q.2.2 (ints x.getters) x.getters.length from hR.2.2).len
  have QC2 := xH1 (show SlR [] w q.2.2 (ints x.getters) x.getters.length from hR.2.2).cap
  clear g' hx hxq hR
  have HOK := xH1 (HF.out.ch i2 hi)
  rw [← HX.out] at HOK
  have j0 : (0 : Int) ≤ (i2 : Int) := by omega
  have j1 : (i2 : Int) < (v.ch.n : Int) := by rw [HS.out.ch.len]; omega
  have EA := xH1 ea
  replace g0 := zd h.fr.bel g0
  replace g1 := zd h.fr.bel g1
  replace g2 := zd h.fr.bel g2
  replace g3 := zd h.fr.bel g3
  replace g4 := zd h.fr.bel g4
  clear hi ea on0 on1
  have hno : (j : Int) ∉ oT s := NOT.out.resolve_right (by decide)
  have HNS : Hid ((j : Int) ∉ x.senders.map (·.1)) := xH1 (fun hm => by
   obtain ⟨z, hz, e⟩ := List.mem_map.1 hm
   exact HT.out.ne (by rw [← e]; exact zfw HI.out z (by rw [← HX.out]; exact hz)))
  have HNG : Hid ((j : Int) ∉ x.getters) := xH1 (fun hm => HT.out.ne (List.mem_map.2 ⟨((j : Int), 9, ((i2 : Nat) : Int), 0), zbA HI.out (by rw [← HX.out]; exact xQ1 (.inr (List.mem_map.2 ⟨_, hm, rfl⟩))), rfl⟩))
  have HSAY : Hid (s.said.length < 64) := xH1 (by have h1 := HR.out.said; have h2 := HF.out.sum32; omega)
  clear hno
  go_upto_region 67 with fail
  have cs := h.fr.c9 3 rfl
  have co := h.fr.c3 1 rfl
  rw [EA.out] at cs
  go_wp2_with fail
  refine (zha x q.1.a q.2.1.a q.2.2.a q.1.n q.1.c q.2.1.n q.2.1.c q.2.2.n q.2.2.c j _ QL0.out.symm QL1.out.symm QL2.out.symm (h.fr.rd Q0.out) (h.fr.rd Q1.out) (h.fr.rd Q2.out) HOK.out.1 T6.out HNS.out HNG.out).mono ?_
  rintro e w2 ⟨y, s1, s2, s3, z, l, val, how, hm2, rfl, hr1, hr2, hr3, hz, hb⟩
  have bA : Below w2.heap.size w2 (Go.World.alloc w2 (.cells #[.int .i64 y.room, .slice s1.a s1.n s1.c, .slice s2.a s2.n s2.c, .slice s3.a s3.n s3.c, .bool y.closed] 95)) := xA1
  have hu : SlR v'.blks (Go.World.alloc w2 (.cells #[.int .i64 y.room, .slice s1.a s1.n s1.c, .slice s2.a s2.n s2.c, .slice s3.a s3.n s3.c, .bool y.closed] 95)) z (ints l) l.length := (zeu h hz).below bA
  have hq : chnR _ (Go.World.alloc w2 (.cells #[.int .i64 y.room, .slice s1.a s1.n s1.c, .slice s2.a s2.n s2.c, .slice s3.a s3.n s3.c, .bool y.closed] 95)) y (s1, s2, s3) := ⟨h.apart (hr1.below bA), h.apart (hr2.below bA), h.apart (hr3.below bA)⟩
  have kN : Blk (Go.World.alloc w2 (.cells #[.int .i64 y.room, .slice s1.a s1.n s1.c, .slice s2.a s2.n s2.c, .slice s3.a s3.n s3.c, .bool y.closed] 95)) w2.heap.size #[.int .i64 y.room, .slice s1.a s1.n s1.c, .slice s2.a s2.n s2.c, .slice s3.a s3.n s3.c, .bool y.closed] 95 := Blk.new _ _ _
  replace h := (h.call hb).call bA
  clear cs co g0 g1 g2 g3 g4 hb bA hr1 hr2 hr3
  go_upto_region 68 with fail
  obtain ⟨WA, hWA⟩ : ∃ x, x = (Go.World.alloc w2 (.cells #[.int .i64 y.room, .slice s1.a s1.n s1.c, .slice s2.a s2.n s2.c, .slice s3.a s3.n s3.c, .bool y.closed] 95)) := ⟨_, rfl⟩
  rw [← hWA] at h kN hq hu ⊢
  clear hWA
  clear hz
  have HM := xH1 hm2
  have htg := zjw HF.out HI.out (t := (j : Int)) (v := val) (how := how) (y := y) (l := l) (by rw [← HX.out]; exact hm2)
  have HTO : Hid (Told p s l) := xH1 htg.1
  have HH0 := xH1 htg.2.1
  have hhow := htg.2.2
  clear hm2 htg
  obtain ⟨gt, eg, -, -⟩ := zaT h.st.ch (by rw [h.st.nch]; have := HI.out; omega)
  have EG := xH1 eg
  have ownP := h.st.ch
  rw [show v'.ch.val = .slice (some ⟨gt, 0, none⟩) v'.ch.n v'.ch.c by rw [← EG.out]] at ownP
  have fz0 := ownP.frozenAt (i2 * 5)
  have fz1 := ownP.frozenAt (i2 * 5 + 1)
  have fz2 := ownP.frozenAt (i2 * 5 + 2)
  have fz3 := ownP.frozenAt (i2 * 5 + 3)
  have fz4 := ownP.frozenAt (i2 * 5 + 4)
  obtain ⟨y0, cg0⟩ := zQ ownP (i2 * 5) (by have := HI.out; have := h.st.nch; omega)
  obtain ⟨y1, cg1⟩ := zQ ownP (i2 * 5 + 1) (by have := HI.out; have := h.st.nch; omega)
  obtain ⟨y2, cg2⟩ := zQ ownP (i2 * 5 + 2) (by have := HI.out; have := h.st.nch; omega)
  obtain ⟨y3, cg3⟩ := zQ ownP (i2 * 5 + 3) (by have := HI.out; have := h.st.nch; omega)
  obtain ⟨y4, cg4⟩ := zQ ownP (i2 * 5 + 4) (by have := HI.out; have := h.st.nch; omega)
  have hP := h.st.put_ch (g := gt) EG.out i2 HI.out (x := y) (q := (s1, s2, s3)) hq
  have hgm : gt ∈ v'.blks := StV.mem_ch (by rw [EG.out]; rfl)
  have h6 := h.put hgm hP
  have hu6 := (hu.touch hP.2 (fun b hb => by obtain rfl := xS1 hb; exact hgm)).drew
  clear hP hgm hu
  have qm : World.cell? _ ⟨M, 11, none⟩ = some (.slice v'.ch.a v'.ch.n v'.ch.c) := h.fr.cell 0 11 rfl rfl
  rw [EG.out] at qm
  have co := h.fr.c3 1 rfl
  have n0 := kN.cell 0 rfl
  have n1 := kN.cell 1 rfl
  have n2 := kN.cell 2 rfl
  have n3 := kN.cell 3 rfl
  have n4 := kN.cell 4 rfl
  have j2 : (i2 : Int) < (v'.ch.n : Int) := by rw [h.st.nch]; have := HI.out; omega
  clear ownP eg
  go_wp2
  go_still_tail 9, (by kernel_rfl)
  go_upto_region 69 with fail
  obtain ⟨W3, hw, h7⟩ := h6.drew.named
  rw [← hw]
  rw [← hw] at hu6
  clear h6 h hw kN co qm hq n0 fz0 cg0 n1 fz1 cg1 n2 fz2 cg2 n3 fz3 cg3 n4 fz4 cg4
  go_wp2_with fail
  refine (zav w _ _ M u p v' _ _ false z.a z.n z.c l h7 HP.out HVS.out hu6 HTO.out.1 P8.out HTO.out.2 PL8.out).mono ?_
  rintro e Wt ⟨rfl, h8, -⟩
  clear h7 hu6
  rcases hhow with rfl | rfl | rfl
  focus
   obtain rfl := HH0.out rfl
   have HE : Hid (zI p s j = za1 p (goAll p (setChn s i2 y) []) j false) := xH1 (by
    unfold zI
    rw [← HO.out]
    show doGet p s j ⟨9, ((i2 : Nat) : Int), ar⟩ = _
    unfold doGet
    dsimp only
    rw [show ((i2 : Nat) : Int).toNat = i2 from rfl, ← HX.out, HM.out]
    rfl)
   have PLB : Hid (∀ i, 0 ≤ (goAll p (setChn s i2 y) []).places.getD i 0 ∧ (goAll p (setChn s i2 y) []).places.getD i 0 ≤ 8) := xH1 PL8.out
   go_wp2_with fail
   refine (zbL w _ _ M u p v' _ _ false j _ h8 HP.out HVS.out (by rw [zaA, zbD]; exact P8.out) (by have := TT.out; rw [zaA]; exact this) PLB.out).mono ?_
   rintro e Wb ⟨rfl, h⟩
   clear h8
   obtain ⟨vv, hvv⟩ : ∃ x, x = v' := ⟨_, rfl⟩
   rw [← hvv] at h
   clear hvv
  rotate_left
  focus
   have HE : Hid (zI p s j = za1 p (sayIt (goAll p (setChn s i2 y) l) val) j true) := xH1 (by
    unfold zI
    rw [← HO.out]
    show doGet p s j ⟨9, ((i2 : Nat) : Int), ar⟩ = _
    unfold doGet
    dsimp only
    rw [show ((i2 : Nat) : Int).toNat = i2 from rfl, ← HX.out, HM.out]
    exact (zdn p (sayIt (setChn s i2 y) val) l [(j : Int)]).trans (by rw [zhs]; rfl))
   have PLB : Hid (∀ i, 0 ≤ (goAll p (setChn s i2 y) l).places.getD i 0 ∧ (goAll p (setChn s i2 y) l).places.getD i 0 ≤ 8) := xH1 (le8 (s := s) HST.out.fits (fun i => (PL8.out i).1) (fun i => (zaD l (setChn s i2 y) i).1) (fun i => by rw [HE.out]; exact zfO (p := p) (sayIt (goAll p (setChn s i2 y) l) val) (j : Int) true i))
   have hsl : (goAll p (setChn s i2 y) l).said.length < 64 := by rw [zaP]; exact HSAY.out
   go_wp2_with fail
   refine (ze6 w _ _ M u v' _ _ false val h8 hsl).mono ?_
   rintro e Wa ⟨rfl, r, h9⟩
   clear h8 hsl
   go_wp2_with fail
   refine (zbL w _ _ M u p { v' with sa := r } _ _ false j _ h9 HP.out HVS.out (by show 0 < (goAll p _ l).places.length ∧ (goAll p _ l).places.length ≤ 8 ∧ (goAll p _ l).places.length = (goAll p _ l).status.length; rw [zaA, zbD]; exact P8.out) (by have := TT.out; show 0 ≤ (j : Int) ∧ (j : Int) < p.threads.length ∧ (j : Int) < ((goAll p _ l).places.length : Int); rw [zaA]; exact this) PLB.out).mono ?_
   rintro e Wb ⟨rfl, h⟩
   clear h9
   obtain ⟨vv, hvv⟩ : ∃ x, x = { v' with sa := r } := ⟨_, rfl⟩
   rw [← hvv] at h
   clear hvv
  rotate_left
  focus
   have HE : Hid (zI p s j = za1 p (goAll p (setChn s i2 y) l) j true) := xH1 (by
    unfold zI
    rw [← HO.out]
    show doGet p s j ⟨9, ((i2 : Nat) : Int), ar⟩ = _
    unfold doGet
    dsimp only
    rw [show ((i2 : Nat) : Int).toNat = i2 from rfl, ← HX.out, HM.out]
    exact zdn p _ l [(j : Int)])
   have PLB : Hid (∀ i, 0 ≤ (goAll p (setChn s i2 y) l).places.getD i 0 ∧ (goAll p (setChn s i2 y) l).places.getD i 0 ≤ 8) := xH1 (le8 (s := s) HST.out.fits (fun i => (PL8.out i).1) (fun i => (zaD l (setChn s i2 y) i).1) (fun i => by rw [HE.out]; exact zfO (p := p) (goAll p (setChn s i2 y) l) (j : Int) true i))
   go_wp2_with fail
   refine (zbL w _ _ M u p v' _ _ false j _ h8 HP.out HVS.out (by rw [zaA, zbD]; exact P8.out) (by have := TT.out; rw [zaA]; exact this) PLB.out).mono ?_
   rintro e Wb ⟨rfl, h⟩
   clear h8
   obtain ⟨vv, hvv⟩ : ∃ x, x = v' := ⟨_, rfl⟩
   rw [← hvv] at h
   clear hvv
  rotate_left
 rotate_left 3
 focus
  obtain ⟨on0, on1⟩ := zbO HOV.out
  rw [show zv p (10 : Int) = p.rooms.length by unfold zv; rw [if_neg (by omega), if_neg (by omega), if_neg (by omega), if_neg (by omega), if_neg (by omega)]] at on1
  dsimp only at on0 on1
  obtain ⟨i2, rfl⟩ : ∃ z : Nat, on = z := ⟨on.toNat, by omega⟩
  have hi : i2 < s.chans.length := by rw [HF.out.nch]; omega
  have HI := xH1 hi
  obtain ⟨b1, o1, ea, g'⟩ := HS.out.ch.rd.flat zc8 zcw (by rw [HS.out.inn.ch.len]; have := hi; omega) (by decide)
  obtain ⟨⟨x, q⟩, hxq⟩ : ∃ y, y = L.ch.getD i2 zcw := ⟨_, rfl⟩
  have hx : x = s.chans.getD i2 zy := by have := HS.out.inn.ch.fst zy (nilV, nilV, nilV) i2; rw [← this]; exact congrArg Prod.fst hxq
  have hR := HS.out.inn.ch.at zy (nilV, nilV, nilV) (i := i2) hi
  replace g' := g' i2 (by rw [HS.out.inn.ch.len]; exact hi)
  rw [← hxq] at g'
  rw [show L.ch.getD i2 (zy, _) = (x, q) from hxq.symm, ← hx] at hR
  have HX := xH1 hx
  have g0 : w.cell? ⟨b1, o1 + i2 * 5, none⟩ = some (.int .i64 x.room) := by have := g' 0 (by decide); simpa [chnC] using this
  have g1 : w.cell? ⟨b1, o1 + i2 * 5 + 1, none⟩ = some (.slice q.1.a q.1.n q.1.c) := by have := g' 1 (by decide); simpa [chnC] using this
  have g2 : w.cell? ⟨b1, o1 + i2 * 5 + 2, none⟩ = some (.slice q.2.1.a q.2.1.n q.2.1.c) := by have := g' 2 (by decide); simpa [chnC] using this
  have g3 : w.cell? ⟨b1, o1 + i2 * 5 + 3, none⟩ = some (.slice q.2.2.a q.2.2.n q.2.2.c) := by have := g' 3 (by decide); simpa [chnC] using this
  have g4 : w.cell? ⟨b1, o1 + i2 * 5 + 4, none⟩ = some (.bool x.closed) := by have := g' 4 (by decide); simpa [chnC] using this
  have Q0 := xH1 ((show SlR [] w q.1 (ints x.items) x.items.length from hR.1).rd)
  have QL0 := xH1 (show SlR [] w q.1 (ints x.items) x.items.length from hR.1).len
  have QC0 := xH1 (show SlR [] w q.1 (ints x.items) x.items.length from hR.1).cap
  have Q1 := xH1 ((show SlR [] w q.2.1 (zH x.senders) x.senders.length from hR.2.1).rd)
  have QL1 := xH1 (show SlR [] w q.2.1 (zH x.senders) x.senders.length from hR.2.1).len
  have QC1 := xH1 (show SlR [] w q.2.1 (zH x.senders) x.senders.length from hR.2.1).cap
  have Q2 := xH1 ((show SlR [] w q.2.2 (ints x.getters) x.getters.length from hR.2.2).rd)
  have QL2 := xH1 (show SlR [] w q.2.2 (ints x.getters) x.getters.length from hR.2.2).len
  have QC2 := xH1 (show SlR [] w q.2.2 (ints x.getters) x.getters.length from hR.2.2).cap
  clear g' hx hxq hR
  have HOK := xH1 (HF.out.ch i2 hi)
  rw [← HX.out] at HOK
  have j0 : (0 : Int) ≤ (i2 : Int) := by omega
  have j1 : (i2 : Int) < (v.ch.n : Int) := by rw [HS.out.ch.len]; omega
  have EA := xH1 ea
  replace g0 := zd h.fr.bel g0
  replace g1 := zd h.fr.bel g1
  replace g2 := zd h.fr.bel g2
  replace g3 := zd h.fr.bel g3
  replace g4 := zd h.fr.bel g4
  clear hi ea on0 on1
  go_upto_region 74 with fail
  have cs := h.fr.c9 3 rfl
  have co := h.fr.c3 1 rfl
  rw [EA.out] at cs
  go_wp2_with fail
  refine (zgi x q.1.a q.2.1.a q.2.2.a q.1.n q.1.c q.2.1.n q.2.1.c q.2.2.n q.2.2.c _ QL0.out.symm QL1.out.symm QL2.out.symm (h.fr.rd Q0.out) (h.fr.rd Q1.out) (h.fr.rd Q2.out) HOK.out.1).mono ?_
  rintro e w2 ⟨y, s1, s2, s3, z, l, bb, hm2, rfl, hr1, hr2, hr3, hz, hb⟩
  have bA : Below w2.heap.size w2 (Go.World.alloc w2 (.cells #[.int .i64 y.room, .slice s1.a s1.n s1.c, .slice s2.a s2.n s2.c, .slice s3.a s3.n s3.c, .bool y.closed] 95)) := xA1
  have hu : SlR v'.blks (Go.World.alloc w2 (.cells #[.int .i64 y.room, .slice s1.a s1.n s1.c, .slice s2.a s2.n s2.c, .slice s3.a s3.n s3.c, .bool y.closed] 95)) z (ints l) l.length := (zeu h hz).below bA
  have hq : chnR _ (Go.World.alloc w2 (.cells #[.int .i64 y.room, .slice s1.a s1.n s1.c, .slice s2.a s2.n s2.c, .slice s3.a s3.n s3.c, .bool y.closed] 95)) y (s1, s2, s3) := ⟨h.apart (hr1.below bA), h.apart (hr2.below bA), h.apart (hr3.below bA)⟩
  have kN : Blk (Go.World.alloc w2 (.cells #[.int .i64 y.room, .slice s1.a s1.n s1.c, .slice s2.a s2.n s2.c, .slice s3.a s3.n s3.c, .bool y.closed] 95)) w2.heap.size #[.int .i64 y.room, .slice s1.a s1.n s1.c, .slice s2.a s2.n s2.c, .slice s3.a s3.n s3.c, .bool y.closed] 95 := Blk.new _ _ _
  replace h := (h.call hb).call bA
  clear cs co g0 g1 g2 g3 g4 hb bA hr1 hr2 hr3
  go_upto_region 75 with fail
  obtain ⟨WA, hWA⟩ : ∃ x, x = (Go.World.alloc w2 (.cells #[.int .i64 y.room, .slice s1.a s1.n s1.c, .slice s2.a s2.n s2.c, .slice s3.a s3.n s3.c, .bool y.closed] 95)) := ⟨_, rfl⟩
  rw [← hWA] at h kN hq hu ⊢
  clear hWA
  clear hz
  cases bb
  ·clear hu hq kN
   rw [if_neg (by decide)] at hm2
   have HE : Hid (zI p s j = zbl s 4) := xH1 (by
    unfold zI
    rw [← HO.out]
    show doClose p s j ⟨10, ((i2 : Nat) : Int), ar⟩ = _
    unfold doClose
    dsimp only
    rw [show ((i2 : Nat) : Int).toNat = i2 from rfl, ← HX.out, hm2])
   go_wp2_with fail
   refine (zdw (w.heap.size + 1) 4 v L s _ (h.fr.blk 3 rfl) (HS.out.below h.bel) HF.out.sm).mono ?_
   rintro e Wc ⟨v2, L2, rfl, ho, hn, hb⟩
   have HN2 := NewB.lower hn h.bel.size
   have g := Sf.gain h.fr ho hn hb
   clear ho hn hb h
   have cz := g.c9 2 rfl
   have g2 := g.set9 2 rfl (.slice v2.pl.a v2.pl.n v2.pl.c) (.slice v2.st.a v2.st.n v2.st.c) (.slice v2.se.a v2.se.n v2.se.c) (.slice v2.on.a v2.on.n v2.on.c) (.slice v2.gr.a v2.gr.n v2.gr.c) (.slice v2.ba.a v2.ba.n v2.ba.c) (.slice v2.ch.a v2.ch.n v2.ch.c) (.slice v2.sa.a v2.sa.n v2.sa.c) (.int .i64 v2.fl)
   go_wp2
   exact bodyPost_ret (v := .tuple #[.agg #[.slice v2.pl.a v2.pl.n v2.pl.c, .slice v2.st.a v2.st.n v2.st.c, .slice v2.se.a v2.se.n v2.se.c, .slice v2.on.a v2.on.n v2.on.c, .slice v2.gr.a v2.gr.n v2.gr.c, .slice v2.ba.a v2.ba.n v2.ba.c, .slice v2.ch.a v2.ch.n v2.ch.c, .slice v2.sa.a v2.sa.n v2.sa.c, .int .i64 v2.fl], .bool true]) (by simp [results, Try.results36, go_sem, g2.c9 2 rfl]) rfl ⟨v2, L2, rfl, by rw [HE.out]; exact g2.st.sub (by simp), HN2, g2.bel⟩
  rw [if_pos rfl] at hm2
  have HE : Hid (zI p s j = goAll p (goAll p (setChn s i2 y) l) [(j : Int)]) := xH1 (by
   unfold zI
   rw [← HO.out]
   show doClose p s j ⟨10, ((i2 : Nat) : Int), ar⟩ = _
   unfold doClose
   dsimp only
   rw [show ((i2 : Nat) : Int).toNat = i2 from rfl, ← HX.out, hm2]
   exact zdn p _ l [(j : Int)])
  have HTO : Hid (Told p s l) := xH1 (ziT HF.out HI.out (by rw [← HX.out]; exact hm2))
  have PLB : Hid (∀ i, 0 ≤ (goAll p (setChn s i2 y) l).places.getD i 0 ∧ (goAll p (setChn s i2 y) l).places.getD i 0 ≤ 8) := xH1 (le8 (s := s) HST.out.fits (fun i => (PL8.out i).1) (fun i => (zaD l (setChn s i2 y) i).1) (fun i => by rw [HE.out]; exact (zaD [(j : Int)] _ i).1))
  clear hm2
  obtain ⟨gt, eg, -, -⟩ := zaT h.st.ch (by rw [h.st.nch]; have := HI.out; omega)
  have EG := xH1 eg
  have ownP := h.st.ch
  rw [show v'.ch.val = .slice (some ⟨gt, 0, none⟩) v'.ch.n v'.ch.c by rw [← EG.out]] at ownP
  have fz0 := ownP.frozenAt (i2 * 5)
  have fz1 := ownP.frozenAt (i2 * 5 + 1)
  have fz2 := ownP.frozenAt (i2 * 5 + 2)
  have fz3 := ownP.frozenAt (i2 * 5 + 3)
  have fz4 := ownP.frozenAt (i2 * 5 + 4)
  obtain ⟨y0, cg0⟩ := zQ ownP (i2 * 5) (by have := HI.out; have := h.st.nch; omega)
  obtain ⟨y1, cg1⟩ := zQ ownP (i2 * 5 + 1) (by have := HI.out; have := h.st.nch; omega)
  obtain ⟨y2, cg2⟩ := zQ ownP (i2 * 5 + 2) (by have := HI.out; have := h.st.nch; omega)
  obtain ⟨y3, cg3⟩ := zQ ownP (i2 * 5 + 3) (by have := HI.out; have := h.st.nch; omega)
  obtain ⟨y4, cg4⟩ := zQ ownP (i2 * 5 + 4) (by have := HI.out; have := h.st.nch; omega)
  have hP := h.st.put_ch (g := gt) EG.out i2 HI.out (x := y) (q := (s1, s2, s3)) hq
  have hgm : gt ∈ v'.blks := StV.mem_ch (by rw [EG.out]; rfl)
  have h6 := h.put hgm hP
  have hu6 := (hu.touch hP.2 (fun b hb => by obtain rfl := xS1 hb; exact hgm)).drew
  clear hP hgm hu
  have qm : World.cell? _ ⟨M, 11, none⟩ = some (.slice v'.ch.a v'.ch.n v'.ch.c) := h.fr.cell 0 11 rfl rfl
  rw [EG.out] at qm
  have co := h.fr.c3 1 rfl
  have n0 := kN.cell 0 rfl
  have n1 := kN.cell 1 rfl
  have n2 := kN.cell 2 rfl
  have n3 := kN.cell 3 rfl
  have n4 := kN.cell 4 rfl
  have j2 : (i2 : Int) < (v'.ch.n : Int) := by rw [h.st.nch]; have := HI.out; omega
  clear ownP eg
  go_wp2
  go_still_tail 9, (by kernel_rfl)
  go_upto_region 78 with fail
  obtain ⟨W3, hw, h7⟩ := h6.drew.named
  rw [← hw]
  rw [← hw] at hu6
  clear h6 h hw kN co qm hq n0 fz0 cg0 n1 fz1 cg1 n2 fz2 cg2 n3 fz3 cg3 n4 fz4 cg4
  go_wp2_with fail
  refine (zav w _ _ M u p v' _ _ false z.a z.n z.c l h7 HP.out HVS.out hu6 HTO.out.1 P8.out HTO.out.2 PL8.out).mono ?_
  rintro e Wt ⟨rfl, h8, -⟩
  clear h7 hu6
  have h2 := h8.alloc #[.int .i64 j] 3
  have hw : SlR (StV.blks v') (World.alloc Wt (.cells #[.int .i64 j] 3)) ⟨some ⟨Wt.heap.size, 0, none⟩, 1, 1⟩ (ints [(j : Int)]) [(j : Int)].length := ⟨rfl, Rd.of_blk (h2.fr.blk 0 rfl), .inr (fun b hb hm => by have h9 := (h8.st.from b hm).2; simp only [zi, Option.some.injEq] at hb; omega), Nat.le_refl _⟩
  go_wp2_with fail
  refine (zav w _ _ M u p v' _ _ false _ 1 1 [(j : Int)] (h2.pull 1 rfl) HP.out HVS.out hw (by simp) (by rw [zaA, zbD]; exact P8.out) (fun z hz' => by obtain rfl := xS1 hz'; exact (by have := TT.out; rw [zaA]; exact this)) PLB.out).mono ?_
  rintro e Wb ⟨rfl, h3, -⟩
  clear h2 hw h8
  have h := h3.sub (l' := .blk M (mC u v' false) 105 :: .blk bo #[.int .i64 10, .int .i64 (i2 : Int), .int .i64 ar] 44 :: sb3 w u v zC) (.cons_cons _ (.cons _ (.refl _)))
  clear h3
  obtain ⟨vv, hvv⟩ : ∃ x, x = v' := ⟨_, rfl⟩
  rw [← hvv] at h
  clear hvv
 rotate_left
 all_goals
  have q5 : World.cell? _ ⟨M, 5, none⟩ = some (.slice vv.pl.a vv.pl.n vv.pl.c) := h.fr.cell 0 5 rfl rfl
  have q6 : World.cell? _ ⟨M, 6, none⟩ = some (.slice vv.st.a vv.st.n vv.st.c) := h.fr.cell 0 6 rfl rfl
  have q7 : World.cell? _ ⟨M, 7, none⟩ = some (.slice vv.se.a vv.se.n vv.se.c) := h.fr.cell 0 7 rfl rfl
  have q8 : World.cell? _ ⟨M, 8, none⟩ = some (.slice vv.on.a vv.on.n vv.on.c) := h.fr.cell 0 8 rfl rfl
  have q9 : World.cell? _ ⟨M, 9, none⟩ = some (.slice vv.gr.a vv.gr.n vv.gr.c) := h.fr.cell 0 9 rfl rfl
  have q10 : World.cell? _ ⟨M, 10, none⟩ = some (.slice vv.ba.a vv.ba.n vv.ba.c) := h.fr.cell 0 10 rfl rfl
  have q11 : World.cell? _ ⟨M, 11, none⟩ = some (.slice vv.ch.a vv.ch.n vv.ch.c) := h.fr.cell 0 11 rfl rfl
  have q12 : World.cell? _ ⟨M, 12, none⟩ = some (.slice vv.sa.a vv.sa.n vv.sa.c) := h.fr.cell 0 12 rfl rfl
  have q13 : World.cell? _ ⟨M, 13, none⟩ = some (.int .i64 vv.fl) := h.fr.cell 0 13 rfl rfl
  have q14 : World.cell? _ ⟨M, 14, none⟩ = some (.bool false) := h.fr.cell 0 14 rfl rfl
  go_wp2_with fail
  refine (zcD vv _ _ _ h.rd (by have h9 := HST.out.fits.sm; rw [HE.out] at h9; exact h9)).mono ?_
  rintro e Wc ⟨v2, L2, rfl, ho, hn, hb⟩
  have HN2 := NewB.lower hn h.bel.size
  have g := Sf.gain h.fr ho hn hb
  clear ho hn hb h q5 q6 q7 q8 q9 q10 q11 q12 q13 q14
  have cz := g.c9 2 rfl
  have g2 := g.set9 2 rfl (.slice v2.pl.a v2.pl.n v2.pl.c) (.slice v2.st.a v2.st.n v2.st.c) (.slice v2.se.a v2.se.n v2.se.c) (.slice v2.on.a v2.on.n v2.on.c) (.slice v2.gr.a v2.gr.n v2.gr.c) (.slice v2.ba.a v2.ba.n v2.ba.c) (.slice v2.ch.a v2.ch.n v2.ch.c) (.slice v2.sa.a v2.sa.n v2.sa.c) (.int .i64 v2.fl)
  go_wp2
  exact bodyPost_ret (v := .tuple #[.agg #[.slice v2.pl.a v2.pl.n v2.pl.c, .slice v2.st.a v2.st.n v2.st.c, .slice v2.se.a v2.se.n v2.se.c, .slice v2.on.a v2.on.n v2.on.c, .slice v2.gr.a v2.gr.n v2.gr.c, .slice v2.ba.a v2.ba.n v2.ba.c, .slice v2.ch.a v2.ch.n v2.ch.c, .slice v2.sa.a v2.sa.n v2.sa.c, .int .i64 v2.fl], .bool true]) (by simp [results, Try.results36, go_sem, g2.c9 2 rfl]) rfl ⟨v2, L2, rfl, by rw [HE.out]; exact g2.st.sub (by simp), HN2, g2.bel⟩
end Go.Proofs.Ytppoohbkkdgljaa
