/- Part of a proof: RDo. -/
import Derived.Test.YtfpgijihiifogaaQRChan
import Derived.Test.YtfpgijihiifogaaQPMGrp
import Derived.Test.YtfpgijihiifogaaQPMSem
import Derived.Test.YtfpgijihiifogaaQROnce
set_option maxRecDepth 100000
set_option maxHeartbeats 16000000
namespace Go.Proofs.Ytfpgijihiifogaa
open Go.RowKit
theorem specDo7_ok (u : PV) (p : Pg) (v : StV) (L : StL) (s : StD) (t : Int) (w0 w : World) (fl : List It) (h : Sf w0 w fl v L s) (hp : RdP w0 u p) (hf : Run p s) (ht : Turn p s t) :
  Calls Try.prog 37 #[.agg #[.slice u.s u.ns u.cs, .slice u.g u.ng u.cg, .slice u.b u.nb u.cb, .slice u.r u.nr u.cr, .slice u.t u.nt u.ct], .agg #[.slice v.pl.a v.pl.n v.pl.c, .slice v.st.a v.st.n v.st.c, .slice v.se.a v.se.n v.se.c, .slice v.on.a v.on.n v.on.c, .slice v.gr.a v.gr.n v.gr.c, .slice v.ba.a v.ba.n v.ba.c, .slice v.ch.a v.ch.n v.ch.c, .slice v.sa.a v.sa.n v.sa.c, .int .i64 v.fl], .int .i64 t] w (stepQ w0 fl p s t) := by
 have HP := xH1 hp
 have HR := xH1 hf
 have HF := xH1 hf.fits
 have HT := xH1 ht
 clear hp hf ht
 obtain ⟨j, rfl⟩ : ∃ j : Nat, t = (j : Int) := ⟨t.toNat, by have := HT.out.rg; omega⟩
 have P8 : Hid (0 < s.places.length ∧ s.places.length ≤ 8 ∧ s.places.length = s.status.length) := xH1 (by have h1 := HF.out.np; have h2 := HF.out.nst; have := (valid_small HF.out.prog).2.2.2.2.1; omega)
 have PL8 : Hid (∀ i, 0 ≤ s.places.getD i 0 ∧ s.places.getD i 0 ≤ 8) := xH1 (fun i => HF.out.place_le i)
 have TT : Hid (0 ≤ (j : Int) ∧ (j : Int) < p.threads.length ∧ (j : Int) < s.places.length) := xH1 (by have h1 := HF.out.np; have h2 := HT.out.rg; omega)
 have HVS := xH1 (valid_Small HF.out.prog HP.out)
 have T6 : Hid (0 ≤ (j : Int) ∧ (j : Int) < 6) := xH1 (by have := TT.out; have := (valid_small HF.out.prog).2.2.2.2.1; omega)
 have h1 := ((h.alloc (pvC u) 31).alloc (svC v) 44).alloc zC 44
 simp only [World.size_alloc] at h1
 obtain ⟨bt, ot, et, hth4⟩ := HP.out.thr (by have := TT.out; omega)
 obtain ⟨a2, c2, ct, r2⟩ := hth4 j (by have := TT.out; omega)
 obtain ⟨bp, op, ep, gp⟩ := h1.rd.pl.rd.int (by rw [HF.out.np]; have := TT.out; omega)
 replace gp := gp j (by have := TT.out; omega)
 have hlt := HT.out.lt
 have hge := HT.out.ge
 rw [show ((j : Int)).toNat = j from rfl] at hlt hge
 rw [opsOf_nat] at hlt
 obtain ⟨i, hi⟩ : ∃ i : Nat, s.places.getD j 0 = (i : Int) := ⟨(s.places.getD j 0).toNat, by omega⟩
 rw [hi] at gp hlt
 obtain ⟨m, hm⟩ : ∃ m, m = (p.threads.getD j []).length := ⟨_, rfl⟩
 rw [← hm] at hlt ct
 have him : i < m := by omega
 obtain ⟨b2, o2, rfl, g'⟩ := r2.op (by omega)
 obtain ⟨g0, g1, g2⟩ := g' i (by omega)
 have hop : (p.threads.getD j []).getD i noOp = opAt p s j := by unfold opAt opsOf; rw [show ((j : Int)).toNat = j from rfl, hi]; rfl
 rw [hop] at g0 g1 g2
 have hopv := HF.out.opv HT.out
 obtain ⟨⟨kd, on, ar⟩, ho⟩ : ∃ o, o = opAt p s j := ⟨_, rfl⟩
 rw [← ho] at g0 g1 g2 hopv
 have HO := xH1 ho
 have HOV := xH1 hopv
 dsimp only at g0 g1 g2
 replace ct := keepc h1.bel ct
 replace g0 := keepc h1.bel g0
 replace g1 := keepc h1.bel g1
 replace g2 := keepc h1.bel g2
 have k0 : (0 : Int) ≤ (j : Int) := by omega
 have k1 : (j : Int) < (u.nt : Int) := by rw [← HP.out.lt]; have := TT.out; omega
 have k2 : (j : Int) < (v.pl.n : Int) := by rw [h.st.npl]; have := TT.out; omega
 have k3 : (j : Int) < (v.st.n : Int) := by rw [h.st.nst]; have := TT.out; have := P8.out; omega
 have k4 : (i : Int) < (m : Int) := by omega
 have k5 : (0 : Int) ≤ (i : Int) := by omega
 have m8 : m ≤ 8 := by rw [hm]; exact (valid_small HF.out.prog).2.2.2.2.2 j
 have ET := xH1 et
 have EP := xH1 ep
 clear hlt hge hth4 r2 g' hop ho hopv et ep hi hm h
 go_enter Try.func37, Try.ntmps37
 go_wp2_with fail
 obtain ⟨u2, hu, h2⟩ := h1.named
 rw [← hu] at ct gp g0 g1 g2 ⊢
 clear hu h1
 apply wp_rk 13 [.k _, .k _, .k _, .k _, .k _, .k _, .k _, .k _, .k _, .k _, .k _, .k _, .r (rqZ u2.heap.size #[.int .i64 0, .int .i64 0, .int .i64 0] 61)] ⟨stZ, trivial⟩ ?s1 ?e1
 case s1 =>
  repeat' apply And.intro
  all_goals first | trivial | (intro ρ w1 hG hfr hd; obtain ⟨fc, ff⟩ := fcff hfr; have f3 := hfr (.tmp 3) rfl; have f2 := hfr (.tmp 2) rfl; have f4 := hfr (.tmp 4) rfl; have F1 := h2.fr.call hG; have cs := F1.c9 1 rfl; have cp := F1.c5 2 rfl; have ct := (fun _ => keepc hG ct) F1; have gp := (fun _ => keepc hG gp) F1; have g0 := (fun _ => keepc hG g0) F1; have g1 := (fun _ => keepc hG g1) F1; have g2 := (fun _ => keepc hG g2) F1; clear F1)
  exact rk0; exact rk1; exact rk0
  ·have d : ρ (.tmp _) = _ := hd.1; have d' : ρ (.tmp _) = _ := hd.2.1; rw [ET.out] at d; exact rk0
  exact rk1; exact rk0; exact rk1; exact rk0
  ·have d : ρ (.tmp _) = _ := hd.1; have d' : ρ (.tmp _) = _ := hd.2.1; rw [EP.out] at d; exact rk0
  exact rk1; exact rk2; exact rk1; exact rkZ
 intro w2 hG
 refine rk_end ?_
 intro xv12 hv12
 obtain ⟨bo, rfl, kO, hbo⟩ := hv12
 replace h2 := h2.more hG (i := .blk bo #[.int .i64 0, .int .i64 0, .int .i64 0] 61) ⟨hbo, kO⟩
 have co := h2.c3 0 rfl
 have h3 := h2.set3 0 rfl (.int .i64 kd) (.int .i64 on) (.int .i64 ar)
 clear ct gp g0 g1 g2 hG kO hbo
 go_upto_region 2 with fail
 obtain ⟨W1, hw, h4⟩ := h3.named
 rw [← hw]
 clear hw h3 h2 co
 have h : Sf w0 _ (.row (some ⟨W1.heap.size, 0, none⟩) 0 0 3 1 (ints []) :: .blk bo #[.int .i64 kd, .int .i64 on, .int .i64 ar] 61 :: sb4 w u v zC fl) v L s := h4.row (xA1) (owns_empty W1 3 1)
 clear h4
 go_upto_region 4 with fail
 obtain ⟨W, hw, h3⟩ := h.named
 rw [← hw]
 clear hw h
 have co := h3.c3 1 rfl
 go_upto_region 6 with fail
 clear co
 have h := h3
 clear h3
 obtain ⟨gE, hgE⟩ : ∃ g, g = W1.heap.size := ⟨_, rfl⟩
 rw [← hgE] at h ⊢
 clear hgE
 have hk := op_kind HOV.out
 dsimp only at hk
 have NOT : Hid ((j : Int) ∉ oT s ∨ kd = 4) := xH1 (by
  rcases HT.out.st with ⟨-, h1⟩ | ⟨-, h1, -⟩
  ·exact .inl h1
  ·rw [← HO.out] at h1; exact .inr h1)
 have hkk : kd = 1 ∨ kd = 2 ∨ kd = 3 ∨ kd = 4 ∨ kd = 5 ∨ kd = 6 ∨ kd = 7 ∨ (kd = 8 ∨ kd = 9 ∨ kd = 10) := by omega
 clear hk
 rcases hkk with rfl | rfl | rfl | rfl | rfl | rfl | rfl | hkk
 focus
  have HE : Hid (stepD p s j = goAll p (sayIt s ar) ([] ++ [(j : Int)])) := xH1 (by unfold stepD; rw [← HO.out]; rfl)
  have hsl : v.sa.n < 64 := by rw [h.st.nsa]; have h1 := HR.out.said; have h2 := HF.out.sum32; omega
  have cs := h.fr.c9 3 rfl
  have co := h.fr.c3 1 rfl
  have h1 := h.alloc #[.int .i64 ar] 3
  clear h
  go_upto_region 7 with fail
  go_upto_region 39 with (at_builtin; refine h1.app_sa rfl _ _ rfl rfl rfl (Rd.of_blk (h1.fr.blk 0 rfl)) (by omega) ?_; intro r W5 h5; have cs := h5.fr.c9 4 rfl; have h6 := (h5.set 4 rfl 7 r.val).sub (l' := .row (some ⟨gE, 0, none⟩) 0 0 3 1 (ints []) :: sb4 w u { v with sa := r } zC fl) (.cons _ (.cons_cons _ (.cons _ (.refl _)))))
  obtain ⟨W6, hw, h7⟩ := h6.named
  rw [← hw]
  clear hw h6 h5 h1 cs co hsl
  have HTO : Hid (Told p s []) := xH1 told_nil
  obtain ⟨S1, hS1⟩ : ∃ x, x = sayIt s ar := ⟨_, rfl⟩
  have HPS : Hid (S1.places = s.places ∧ S1.status = s.status) := xH1 (by subst hS1; exact ⟨rfl, rfl⟩)
  have h := h7
  rw [← hS1] at h
  replace HE : Hid (stepD p s j = goAll p S1 ([] ++ [(j : Int)])) := xH1 (by subst hS1; exact HE.out)
  clear hS1 h7
  replace h := h.sub (l' := .row (some ⟨gE, 0, none⟩) 0 0 3 1 (ints []) :: sb4 w u { v with sa := r } zC fl) (.cons_cons _ (.refl _))
  obtain ⟨vv, hvv⟩ : ∃ x, x = { v with sa := r } := ⟨_, rfl⟩
  rw [← hvv] at h
  clear hvv
 rotate_left
 focus
  obtain ⟨on0, on1⟩ := op_on HOV.out
  rw [show shared p (2 : Int) = p.sems.length by unfold shared; rw [if_neg (by omega), if_pos (.inl rfl)]] at on1
  dsimp only at on0 on1
  obtain ⟨i2, rfl⟩ : ∃ z : Nat, on = z := ⟨on.toNat, by omega⟩
  have hi : i2 < s.sems.length := by rw [HF.out.nse]; omega
  have HI := xH1 hi
  have HSR := xH1 h.rd
  obtain ⟨x, q, b1, o1, HX, ea, g0, g1, g2, Q0, QL0, QC0⟩ := HSR.out.at_se (j := i2) hi
  have HOK := xH1 (HF.out.se i2 hi)
  rw [← HX.out] at HOK
  have j0 : (0 : Int) ≤ (i2 : Int) := by omega
  have j1 : (i2 : Int) < (v.se.n : Int) := by rw [HSR.out.se.len]; omega
  have EA := xH1 ea
  clear hi ea on0 on1 HSR
  have hperm := op_perm HOV.out (.inl rfl)
  dsimp only at hperm
  rw [show ((i2 : Nat) : Int).toNat = i2 from rfl, ← HOK.out.2] at hperm
  have HPM := xH1 hperm
  have hno : (j : Int) ∉ oT s := NOT.out.resolve_right (by decide)
  have HNW : Hid ((j : Int) ∉ x.queue.map (·.1)) := xH1 (fun hm => by
   obtain ⟨z, hz, e⟩ := List.mem_map.1 hm
   exact HT.out.ne (List.mem_map.2 ⟨(z.1, 2, ((i2 : Nat) : Int), z.2), in_ents_sem HI.out (by rw [← HX.out]; exact List.mem_map.2 ⟨z, hz, rfl⟩), e⟩))
  have HE : Hid (stepD p s j = either p (setSem s i2 (semAcq x j ar).1) j (semAcq x j ar).2) := xH1 (by
   unfold stepD
   rw [← HO.out, HX.out]
   rfl)
  obtain ⟨YB, hYB⟩ : ∃ Y, Y = semAcq x j ar := ⟨_, rfl⟩
  have HYB := xH1 hYB
  rw [← hYB] at HE
  obtain ⟨Y, bb⟩ := YB
  clear hno hperm hYB
  go_upto_region 9 with fail
  go_wp2_with fail
  obtain ⟨u3, rfl⟩ : ∃ x, x = W := ⟨_, rfl⟩
  apply wp_rcs 17 9 3 1 3 79 (fun u w => ∃ (r : SlV), u = .tuple #[.agg #[.int .i64 Y.free, .int .i64 Y.limit, .slice r.a r.n r.c], .bool bb, .bool true] ∧ SlN u3 w r (pairs Y.queue) Y.queue.length) [.k _, .k _, .k _, .k _, .k _, .k _, .k _, .k _, .k _] (fun _ _ _ hb ⟨r, e, m0⟩ => ⟨r, e, m0.below hb⟩) (fun _ _ _ hT ⟨r, e, m0⟩ => ⟨r, e, m0.ts hT (by decide)⟩) (fun _ _ ⟨_, e, _⟩ => ⟨_, e, rfl⟩) (fun _ _ ⟨_, e, _⟩ => ⟨_, congrArg (fun z => tupGet z 0) e, rfl, rfl⟩) ?s2 ?e2
  case s2 =>
   intro hM1 hM2
   repeat' apply And.intro
   all_goals first | trivial | (intro ρ w1 L hG hny hfr hd; obtain ⟨fc, ff⟩ := fcff hfr; have f4 := hfr (.tmp 4) rfl; have f7 := hfr (.tmp 7) rfl; have f2 := hfr (.tmp 2) rfl; have F1 := h.fr.call hG; have cs := F1.c9 3 rfl; have co := F1.c3 1 rfl; have g0 := (fun _ => keepc hG g0) F1; have g1 := (fun _ => keepc hG g1) F1; have g2 := (fun _ => keepc hG g2) F1; clear F1)
   exact rt0; exact rt1; exact rt0; exact rt1
   ·have d : ρ (.tmp _) = _ := hd.1; have d' : ρ (.tmp _) = _ := hd.2.1; rw [EA.out] at d; exact rt0
   exact rt1; exact rt0; exact rt0; exact rt1
   ·obtain ⟨d0, d1, d2, -⟩ := hd
    have d0 : ρ (.tmp 62) = _ := d0
    have d1 : ρ (.tmp 63) = _ := d1
    have d2 : ρ (.tmp 65) = _ := d2
    refine gtC hG (by go_simp) (specAcquire_ok x q.a q.n q.c j ar w1 QL0.out.symm (Q0.out.below hG) HOK.out.1 T6.out HPM.out HNW.out) ?_
    rintro e w2 ⟨y, r, hy, rfl, hr, hb⟩
    obtain rfl : y = Y := by rw [hy, ← HYB.out]
    have hbb : (semAcq x j ar).2 = bb := by rw [← HYB.out]
    rw [hbb]
    exact ⟨_, rfl, hb, ⟨r, rfl, hr.mono hG.size⟩⟩
   exact rtM; exact rtX; exact rtX; exact rtX; exact rtL; exact rtS; exact rtG
  intro w2 hG
  refine rk_end2 ?_
  intro u0 hu0 u1 hu1 e0 he0 e1 he1 e2 he2 al hal so hso as0 has0
  obtain rfl : u1 = u0 := hu1.1
  obtain rfl : e0 = tupGet u1 0 := he0.1
  obtain rfl : e1 = tupGet u1 1 := he1.1
  obtain rfl : e2 = tupGet u1 2 := he2.1
  obtain rfl : as0 = tupGet u1 1 := has0
  have kN : ∃ g, al = .pointer (some ⟨g, 0, none⟩) ∧ Blk w2 g (aggC (tupGet u1 0)) 79 := hso
  obtain ⟨gA1, dA1, rfl, -, -, hgA1⟩ := hal
  obtain ⟨gA, eA, kN⟩ := kN
  obtain rfl : gA1 = gA := by simpa using eA
  clear hu1 he0 he1 he2 hso eA
  obtain ⟨r, rfl, hm0⟩ := hu0
  replace kN : Blk w2 gA1 #[.int .i64 Y.free, .int .i64 Y.limit, .slice r.a r.n r.c] 79 := kN
  simp only [tupGet_list, List.getD_cons_zero, List.getD_cons_succ]
  have hq : semR (foots (.row (some ⟨gE, 0, none⟩) 0 0 3 1 (ints []) :: .blk bo #[.int .i64 2, .int .i64 (i2 : Int), .int .i64 ar] 61 :: sb4 w u v zC fl) ++ v.blks) w2 Y r := h.apart hm0
  replace h := h.call hG
  clear g0 g1 g2 hG hm0
  obtain ⟨gt, eg, hgm, j2, j2', h6, hP, fz0, ⟨y0, cg0⟩, fz1, ⟨y1, cg1⟩, fz2, ⟨y2, cg2⟩⟩ := h.putf_se HI.out (x := Y) (q := r) hq
  have cs := h.fr.c9 3 rfl
  rw [eg] at cs
  have co := h.fr.c3 1 rfl
  have n0 := kN.cell 0 rfl
  have n1 := kN.cell 1 rfl
  have n2 := kN.cell 2 rfl
  clear eg hq kN hP hgm
  go_upto_region 11 with fail
  obtain ⟨W3, hw, h7⟩ := h6.named
  rw [← hw]
  clear h6 h hw cs co n0 fz0 cg0 n1 fz1 cg1 n2 fz2 cg2
  go_upto_region 36 with fail
  obtain ⟨S1, hS1⟩ : ∃ x, x = { s with sems := s.sems.set i2 Y } := ⟨_, rfl⟩
  have HPS : Hid (S1.places = s.places ∧ S1.status = s.status) := xH1 (by subst hS1; exact ⟨rfl, rfl⟩)
  have h := h7
  rw [← hS1] at h
  replace HE : Hid (stepD p s j = either p S1 j bb) := xH1 (by subst hS1; exact HE.out)
  clear hS1 h7
  have HTO : Hid (Told p s []) := xH1 told_nil
  replace h := h.sub (l' := .row (some ⟨gE, 0, none⟩) 0 0 3 1 (ints []) :: sb4 w u v zC fl) (.cons_cons _ (.cons _ (.refl _)))
  obtain ⟨vv, rfl⟩ : ∃ x, x = v := ⟨_, rfl⟩
  cases bb
 rotate_left 2
 focus
  obtain ⟨on0, on1⟩ := op_on HOV.out
  rw [show shared p (3 : Int) = p.sems.length by unfold shared; rw [if_neg (by omega), if_pos (.inr rfl)]] at on1
  dsimp only at on0 on1
  obtain ⟨i2, rfl⟩ : ∃ z : Nat, on = z := ⟨on.toNat, by omega⟩
  have hi : i2 < s.sems.length := by rw [HF.out.nse]; omega
  have HI := xH1 hi
  have HSR := xH1 h.rd
  obtain ⟨x, q, b1, o1, HX, ea, g0, g1, g2, Q0, QL0, QC0⟩ := HSR.out.at_se (j := i2) hi
  have HOK := xH1 (HF.out.se i2 hi)
  rw [← HX.out] at HOK
  have j0 : (0 : Int) ≤ (i2 : Int) := by omega
  have j1 : (i2 : Int) < (v.se.n : Int) := by rw [HSR.out.se.len]; omega
  have EA := xH1 ea
  clear hi ea on0 on1 HSR
  have hperm := op_perm HOV.out (.inr rfl)
  dsimp only at hperm
  rw [show ((i2 : Nat) : Int).toNat = i2 from rfl, ← HOK.out.2] at hperm
  have HPM : Hid (1 ≤ ar ∧ ar ≤ 9) := xH1 (by have := HOK.out.1.1; omega)
  obtain ⟨bb, hbb⟩ : ∃ b, b = (semRel x ar).isSome := ⟨_, rfl⟩
  have HBB := xH1 hbb
  clear hperm hbb
  go_upto_region 13 with fail
  go_wp2_with fail
  obtain ⟨u3, rfl⟩ : ∃ x, x = W := ⟨_, rfl⟩
  apply wp_rcs 16 8 3 1 3 79 (fun u w => ∃ (y : SemD) (r z : SlV) (l : List Int), u = .tuple #[.agg #[.int .i64 y.free, .int .i64 y.limit, .slice r.a r.n r.c], .slice z.a z.n z.c, .bool bb] ∧ SlN u3 w r (pairs y.queue) y.queue.length ∧ w.ownsRow u3.heap.size 3 1 (.slice z.a z.n z.c) z.n (ints l) ∧ (pairs y.queue = [] ∨ ∀ q, rowOf r.a = some q → rowOf z.a ≠ some q) ∧ semRel x ar = (if bb = true then some (y, l) else none)) [.k _, .k _, .k _, .k _, .k _, .k _, .k _, .k _] (fun _ _ _ hb ⟨y, r, z, l, e, m0, m1, m2, m3⟩ => ⟨y, r, z, l, e, m0.below hb, owns_below m1 hb, m2, m3⟩) (fun _ _ _ hT ⟨y, r, z, l, e, m0, m1, m2, m3⟩ => ⟨y, r, z, l, e, m0.ts hT (by decide), owns_ts m1 hT (by decide), m2, m3⟩) (fun _ _ ⟨_, _, _, _, e, _⟩ => ⟨_, e, rfl⟩) (fun _ _ ⟨_, _, _, _, e, _⟩ => ⟨_, congrArg (fun z => tupGet z 0) e, rfl, rfl⟩) ?s3 ?e3
  case s3 =>
   intro hM1 hM2
   repeat' apply And.intro
   all_goals first | trivial | (intro ρ w1 L hG hny hfr hd; obtain ⟨fc, ff⟩ := fcff hfr; have f4 := hfr (.tmp 4) rfl; have f7 := hfr (.tmp 7) rfl; have F1 := h.fr.call hG; have cs := F1.c9 3 rfl; have co := F1.c3 1 rfl; have g0 := (fun _ => keepc hG g0) F1; have g1 := (fun _ => keepc hG g1) F1; have g2 := (fun _ => keepc hG g2) F1; clear F1)
   exact rt0; exact rt1; exact rt0; exact rt1
   ·have d : ρ (.tmp _) = _ := hd.1; have d' : ρ (.tmp _) = _ := hd.2.1; rw [EA.out] at d; exact rt0
   exact rt1; exact rt0; exact rt1
   ·obtain ⟨d0, d1, -⟩ := hd
    have d0 : ρ (.tmp 85) = _ := d0
    have d1 : ρ (.tmp 87) = _ := d1
    refine gtC hG (by go_simp) (specRelease_ok x q.a q.n q.c ar w1 QL0.out.symm (Q0.out.below hG) HOK.out.1 HPM.out) ?_
    rintro e w2 ⟨y, r, z, l, b, hy, rfl, hr, hz, hap, hb⟩
    obtain rfl : b = bb := by rw [HBB.out, hy]; cases b <;> rfl
    exact ⟨_, rfl, hb, ⟨y, r, z, l, rfl, hr.mono hG.size, owns_mono hz hG.size, hap, hy⟩⟩
   exact rtM; exact rtX; exact rtX; exact rtX; exact rtL; exact rtS; exact rtG
  intro w2 hG
  refine rk_end2 ?_
  intro u0 hu0 u1 hu1 e0 he0 e1 he1 e2 he2 al hal so hso as0 has0
  obtain rfl : u1 = u0 := hu1.1
  obtain rfl : e0 = tupGet u1 0 := he0.1
  obtain rfl : e1 = tupGet u1 1 := he1.1
  obtain rfl : e2 = tupGet u1 2 := he2.1
  obtain rfl : as0 = tupGet u1 1 := has0
  have kN : ∃ g, al = .pointer (some ⟨g, 0, none⟩) ∧ Blk w2 g (aggC (tupGet u1 0)) 79 := hso
  obtain ⟨gA1, dA1, rfl, -, -, hgA1⟩ := hal
  obtain ⟨gA, eA, kN⟩ := kN
  obtain rfl : gA1 = gA := by simpa using eA
  clear hu1 he0 he1 he2 hso eA
  obtain ⟨y, r, z, l, rfl, hm0, hm1, hm2, hm3⟩ := hu0
  replace kN : Blk w2 gA1 #[.int .i64 y.free, .int .i64 y.limit, .slice r.a r.n r.c] 79 := kN
  simp only [tupGet_list, List.getD_cons_zero, List.getD_cons_succ]
  have hq : semR (foots (.row z.a z.n z.c 3 1 (ints l) :: .row (some ⟨gE, 0, none⟩) 0 0 3 1 (ints []) :: .blk bo #[.int .i64 3, .int .i64 (i2 : Int), .int .i64 ar] 61 :: sb4 w u v zC fl) ++ v.blks) w2 y r := SlR.apRow (h.apart hm0) hm2
  replace h := h.row hG hm1
  clear g0 g1 g2 hG hm0 hm1 hm2
  cases bb
  ·clear hq kN
   rw [if_neg (by decide)] at hm3
   go_upto_region 15 with fail
   have HE : Hid (stepD p s j = faultIt s 1) := xH1 (by
    unfold stepD
    rw [← HO.out]
    show doRel p s j ⟨3, ((i2 : Nat) : Int), ar⟩ = _
    unfold doRel
    dsimp only
    rw [show ((i2 : Nat) : Int).toNat = i2 from rfl, ← HX.out, hm3])
   have cs := h.fr.c9 4 rfl
   go_wp2_with fail
   refine (specStop7_ok v 1 _).mono ?_
   rintro e Wc ⟨rfl, hb⟩
   replace h : Sf w0 Wc _ { v with fl := 1 } L (faultIt s 1) := ⟨h.fr.call hb, (h.st.below hb).fault 1⟩
   clear cs hb
   have cz := h.c9 3 rfl
   have g := h.set9 3 rfl (.slice { v with fl := 1 }.pl.a { v with fl := 1 }.pl.n { v with fl := 1 }.pl.c) (.slice { v with fl := 1 }.st.a { v with fl := 1 }.st.n { v with fl := 1 }.st.c) (.slice { v with fl := 1 }.se.a { v with fl := 1 }.se.n { v with fl := 1 }.se.c) (.slice { v with fl := 1 }.on.a { v with fl := 1 }.on.n { v with fl := 1 }.on.c) (.slice { v with fl := 1 }.gr.a { v with fl := 1 }.gr.n { v with fl := 1 }.gr.c) (.slice { v with fl := 1 }.ba.a { v with fl := 1 }.ba.n { v with fl := 1 }.ba.c) (.slice { v with fl := 1 }.ch.a { v with fl := 1 }.ch.n { v with fl := 1 }.ch.c) (.slice { v with fl := 1 }.sa.a { v with fl := 1 }.sa.n { v with fl := 1 }.sa.c) (.int .i64 { v with fl := 1 }.fl)
   go_wp2
   exact bodyPost_ret (v := StV.val { v with fl := 1 }) (by simp [results, Try.results37, go_sem, g.c9 3 rfl]) rfl ⟨{ v with fl := 1 }, _, rfl, by rw [HE.out]; exact g.sub (.cons _ (.cons _ (.cons _ (.cons _ (.cons _ (.cons _ (.refl _)))))))⟩
  rw [if_pos rfl] at hm3
  have HE : Hid (stepD p s j = goAll p (setSem s i2 y) (l ++ [(j : Int)])) := xH1 (by
   unfold stepD
   rw [← HO.out]
   show doRel p s j ⟨3, ((i2 : Nat) : Int), ar⟩ = _
   unfold doRel
   dsimp only
   rw [show ((i2 : Nat) : Int).toNat = i2 from rfl, ← HX.out, hm3])
  have HTO : Hid (Told p s l) := xH1 (told_sem HF.out HI.out (m := ar) (by have := HPM.out; omega) (by rw [← HX.out]; exact hm3))
  clear hm3
  obtain ⟨gt, eg, hgm, j2, j2', h6, hP, fz0, ⟨y0, cg0⟩, fz1, ⟨y1, cg1⟩, fz2, ⟨y2, cg2⟩⟩ := h.putf_se HI.out (x := y) (q := r) hq
  have cs := h.fr.c9 4 rfl
  rw [eg] at cs
  have co := h.fr.c3 2 rfl
  have n0 := kN.cell 0 rfl
  have n1 := kN.cell 1 rfl
  have n2 := kN.cell 2 rfl
  clear eg hq kN hP hgm
  go_upto_region 17 with fail
  obtain ⟨W3, hw, h7⟩ := h6.named
  rw [← hw]
  clear h6 h hw cs co n0 fz0 cg0 n1 fz1 cg1 n2 fz2 cg2
  go_upto_region 36 with fail
  obtain ⟨S1, hS1⟩ : ∃ x, x = { s with sems := s.sems.set i2 y } := ⟨_, rfl⟩
  have HPS : Hid (S1.places = s.places ∧ S1.status = s.status) := xH1 (by subst hS1; exact ⟨rfl, rfl⟩)
  have h := h7
  rw [← hS1] at h
  replace HE : Hid (stepD p s j = goAll p S1 (l ++ [(j : Int)])) := xH1 (by subst hS1; exact HE.out)
  clear hS1 h7
  replace h := h.sub (l' := .row z.a z.n z.c 3 1 (ints l) :: sb4 w u v zC fl) (.cons_cons _ (.cons _ (.cons _ (.refl _))))
  obtain ⟨vv, rfl⟩ : ∃ x, x = v := ⟨_, rfl⟩
 rotate_left
 ·go_upto_region 19 with fail
  have cs := h.fr.c9 3 rfl
  have cp := h.fr.c5 4 rfl
  have co := h.fr.c3 1 rfl
  go_wp2_with fail
  refine (specOnce7_sf u p v L s (j : Int) w0 _ _ h HP.out HR.out HT.out ⟨4, on, ar⟩ HO.out rfl).mono ?_
  rintro e Wc ⟨v', L', rfl, h2⟩
  clear cs cp co h
  have cz := h2.c9 2 rfl
  have g := h2.set9 2 rfl (.slice v'.pl.a v'.pl.n v'.pl.c) (.slice v'.st.a v'.st.n v'.st.c) (.slice v'.se.a v'.se.n v'.se.c) (.slice v'.on.a v'.on.n v'.on.c) (.slice v'.gr.a v'.gr.n v'.gr.c) (.slice v'.ba.a v'.ba.n v'.ba.c) (.slice v'.ch.a v'.ch.n v'.ch.c) (.slice v'.sa.a v'.sa.n v'.sa.c) (.int .i64 v'.fl)
  go_wp2
  exact bodyPost_ret (v := StV.val v') (by simp [results, Try.results37, go_sem, g.c9 2 rfl]) rfl ⟨v', L', rfl, g.sub (.cons _ (.cons _ (.cons _ (.cons _ (.cons _ (.refl _))))))⟩
 focus
  obtain ⟨on0, on1⟩ := op_on HOV.out
  rw [show shared p (5 : Int) = p.groups.length by unfold shared; rw [if_neg (by omega), if_neg (by omega), if_neg (by omega), if_pos (.inl rfl)]] at on1
  dsimp only at on0 on1
  obtain ⟨i2, rfl⟩ : ∃ z : Nat, on = z := ⟨on.toNat, by omega⟩
  have hi : i2 < s.groups.length := by rw [HF.out.ngr]; omega
  have HI := xH1 hi
  have HSR := xH1 h.rd
  obtain ⟨x, q, b1, o1, HX, ea, g0, g1, Q0, QL0, QC0⟩ := HSR.out.at_gr (j := i2) hi
  have HOK := xH1 (HF.out.gr i2 hi)
  rw [← HX.out] at HOK
  have j0 : (0 : Int) ≤ (i2 : Int) := by omega
  have j1 : (i2 : Int) < (v.gr.n : Int) := by rw [HSR.out.gr.len]; omega
  have EA := xH1 ea
  clear hi ea on0 on1 HSR
  have hadd := op_add HOV.out rfl
  dsimp only at hadd
  have HPM : Hid (-99 ≤ ar ∧ ar ≤ 99) := xH1 (by omega)
  obtain ⟨bb, hbb⟩ : ∃ b, b = (grpAdd x ar).isSome := ⟨_, rfl⟩
  have HBB := xH1 hbb
  clear hadd hbb
  go_upto_region 21 with fail
  go_wp2_with fail
  obtain ⟨u3, rfl⟩ : ∃ x, x = W := ⟨_, rfl⟩
  apply wp_rcs 16 8 3 1 2 85 (fun u w => ∃ (y : GrpD) (r z : SlV) (l : List Int), u = .tuple #[.agg #[.int .i64 y.count, .slice r.a r.n r.c], .slice z.a z.n z.c, .bool bb] ∧ SlN u3 w r (ints y.waits) y.waits.length ∧ w.ownsRow u3.heap.size 3 1 (.slice z.a z.n z.c) z.n (ints l) ∧ (ints y.waits = [] ∨ ∀ q, rowOf r.a = some q → rowOf z.a ≠ some q) ∧ grpAdd x ar = (if bb = true then some (y, l) else none)) [.k _, .k _, .k _, .k _, .k _, .k _, .k _, .k _] (fun _ _ _ hb ⟨y, r, z, l, e, m0, m1, m2, m3⟩ => ⟨y, r, z, l, e, m0.below hb, owns_below m1 hb, m2, m3⟩) (fun _ _ _ hT ⟨y, r, z, l, e, m0, m1, m2, m3⟩ => ⟨y, r, z, l, e, m0.ts hT (by decide), owns_ts m1 hT (by decide), m2, m3⟩) (fun _ _ ⟨_, _, _, _, e, _⟩ => ⟨_, e, rfl⟩) (fun _ _ ⟨_, _, _, _, e, _⟩ => ⟨_, congrArg (fun z => tupGet z 0) e, rfl, rfl⟩) ?s4 ?e4
  case s4 =>
   intro hM1 hM2
   repeat' apply And.intro
   all_goals first | trivial | (intro ρ w1 L hG hny hfr hd; obtain ⟨fc, ff⟩ := fcff hfr; have f4 := hfr (.tmp 4) rfl; have f7 := hfr (.tmp 7) rfl; have F1 := h.fr.call hG; have cs := F1.c9 3 rfl; have co := F1.c3 1 rfl; have g0 := (fun _ => keepc hG g0) F1; have g1 := (fun _ => keepc hG g1) F1; clear F1)
   exact rt0; exact rt1; exact rt0; exact rt1
   ·have d : ρ (.tmp _) = _ := hd.1; have d' : ρ (.tmp _) = _ := hd.2.1; rw [EA.out] at d; exact rt0
   exact rt1; exact rt0; exact rt1
   ·obtain ⟨d0, d1, -⟩ := hd
    have d0 : ρ (.tmp 118) = _ := d0
    have d1 : ρ (.tmp 120) = _ := d1
    refine gtC hG (by go_simp) (specAddGroup_ok x q.a q.n q.c ar w1 QL0.out.symm QC0.out (Q0.out.below hG) HOK.out HPM.out) ?_
    rintro e w2 ⟨y, r, z, l, b, hy, rfl, hr, hz, hap, hb⟩
    obtain rfl : b = bb := by rw [HBB.out, hy]; cases b <;> rfl
    exact ⟨_, rfl, hb, ⟨y, r, z, l, rfl, hr.mono hG.size, owns_mono hz hG.size, hap, hy⟩⟩
   exact rtM; exact rtX; exact rtX; exact rtX; exact rtL; exact rtS; exact rtG
  intro w2 hG
  refine rk_end2 ?_
  intro u0 hu0 u1 hu1 e0 he0 e1 he1 e2 he2 al hal so hso as0 has0
  obtain rfl : u1 = u0 := hu1.1
  obtain rfl : e0 = tupGet u1 0 := he0.1
  obtain rfl : e1 = tupGet u1 1 := he1.1
  obtain rfl : e2 = tupGet u1 2 := he2.1
  obtain rfl : as0 = tupGet u1 1 := has0
  have kN : ∃ g, al = .pointer (some ⟨g, 0, none⟩) ∧ Blk w2 g (aggC (tupGet u1 0)) 85 := hso
  obtain ⟨gA1, dA1, rfl, -, -, hgA1⟩ := hal
  obtain ⟨gA, eA, kN⟩ := kN
  obtain rfl : gA1 = gA := by simpa using eA
  clear hu1 he0 he1 he2 hso eA
  obtain ⟨y, r, z, l, rfl, hm0, hm1, hm2, hm3⟩ := hu0
  replace kN : Blk w2 gA1 #[.int .i64 y.count, .slice r.a r.n r.c] 85 := kN
  simp only [tupGet_list, List.getD_cons_zero, List.getD_cons_succ]
  have hq : grpR (foots (.row z.a z.n z.c 3 1 (ints l) :: .row (some ⟨gE, 0, none⟩) 0 0 3 1 (ints []) :: .blk bo #[.int .i64 5, .int .i64 (i2 : Int), .int .i64 ar] 61 :: sb4 w u v zC fl) ++ v.blks) w2 y r := SlR.apRow (h.apart hm0) hm2
  replace h := h.row hG hm1
  clear g0 g1 hG hm0 hm1 hm2
  cases bb
  ·clear hq kN
   rw [if_neg (by decide)] at hm3
   go_upto_region 23 with fail
   have HE : Hid (stepD p s j = faultIt s 2) := xH1 (by
    unfold stepD
    rw [← HO.out]
    show doAdd p s j ⟨5, ((i2 : Nat) : Int), ar⟩ = _
    unfold doAdd
    dsimp only
    rw [show ((i2 : Nat) : Int).toNat = i2 from rfl, ← HX.out, hm3])
   have cs := h.fr.c9 4 rfl
   go_wp2_with fail
   refine (specStop7_ok v 2 _).mono ?_
   rintro e Wc ⟨rfl, hb⟩
   replace h : Sf w0 Wc _ { v with fl := 2 } L (faultIt s 2) := ⟨h.fr.call hb, (h.st.below hb).fault 2⟩
   clear cs hb
   have cz := h.c9 3 rfl
   have g := h.set9 3 rfl (.slice { v with fl := 2 }.pl.a { v with fl := 2 }.pl.n { v with fl := 2 }.pl.c) (.slice { v with fl := 2 }.st.a { v with fl := 2 }.st.n { v with fl := 2 }.st.c) (.slice { v with fl := 2 }.se.a { v with fl := 2 }.se.n { v with fl := 2 }.se.c) (.slice { v with fl := 2 }.on.a { v with fl := 2 }.on.n { v with fl := 2 }.on.c) (.slice { v with fl := 2 }.gr.a { v with fl := 2 }.gr.n { v with fl := 2 }.gr.c) (.slice { v with fl := 2 }.ba.a { v with fl := 2 }.ba.n { v with fl := 2 }.ba.c) (.slice { v with fl := 2 }.ch.a { v with fl := 2 }.ch.n { v with fl := 2 }.ch.c) (.slice { v with fl := 2 }.sa.a { v with fl := 2 }.sa.n { v with fl := 2 }.sa.c) (.int .i64 { v with fl := 2 }.fl)
   go_wp2
   exact bodyPost_ret (v := StV.val { v with fl := 2 }) (by simp [results, Try.results37, go_sem, g.c9 3 rfl]) rfl ⟨{ v with fl := 2 }, _, rfl, by rw [HE.out]; exact g.sub (.cons _ (.cons _ (.cons _ (.cons _ (.cons _ (.cons _ (.refl _)))))))⟩
  rw [if_pos rfl] at hm3
  have HE : Hid (stepD p s j = goAll p (setGrp s i2 y) (l ++ [(j : Int)])) := xH1 (by
   unfold stepD
   rw [← HO.out]
   show doAdd p s j ⟨5, ((i2 : Nat) : Int), ar⟩ = _
   unfold doAdd
   dsimp only
   rw [show ((i2 : Nat) : Int).toNat = i2 from rfl, ← HX.out, hm3])
  have HTO : Hid (Told p s l) := xH1 (told_grp HF.out HI.out (by rw [← HX.out]; exact hm3))
  clear hm3
  obtain ⟨gt, eg, hgm, j2, j2', h6, hP, fz0, ⟨y0, cg0⟩, fz1, ⟨y1, cg1⟩⟩ := h.putf_gr HI.out (x := y) (q := r) hq
  have cs := h.fr.c9 4 rfl
  rw [eg] at cs
  have co := h.fr.c3 2 rfl
  have n0 := kN.cell 0 rfl
  have n1 := kN.cell 1 rfl
  clear eg hq kN hP hgm
  go_upto_region 25 with fail
  obtain ⟨W3, hw, h7⟩ := h6.named
  rw [← hw]
  clear h6 h hw cs co n0 fz0 cg0 n1 fz1 cg1
  go_upto_region 36 with fail
  obtain ⟨S1, hS1⟩ : ∃ x, x = { s with groups := s.groups.set i2 y } := ⟨_, rfl⟩
  have HPS : Hid (S1.places = s.places ∧ S1.status = s.status) := xH1 (by subst hS1; exact ⟨rfl, rfl⟩)
  have h := h7
  rw [← hS1] at h
  replace HE : Hid (stepD p s j = goAll p S1 (l ++ [(j : Int)])) := xH1 (by subst hS1; exact HE.out)
  clear hS1 h7
  replace h := h.sub (l' := .row z.a z.n z.c 3 1 (ints l) :: sb4 w u v zC fl) (.cons_cons _ (.cons _ (.cons _ (.refl _))))
  obtain ⟨vv, rfl⟩ : ∃ x, x = v := ⟨_, rfl⟩
 rotate_left
 focus
  obtain ⟨on0, on1⟩ := op_on HOV.out
  rw [show shared p (6 : Int) = p.groups.length by unfold shared; rw [if_neg (by omega), if_neg (by omega), if_neg (by omega), if_pos (.inr rfl)]] at on1
  dsimp only at on0 on1
  obtain ⟨i2, rfl⟩ : ∃ z : Nat, on = z := ⟨on.toNat, by omega⟩
  have hi : i2 < s.groups.length := by rw [HF.out.ngr]; omega
  have HI := xH1 hi
  have HSR := xH1 h.rd
  obtain ⟨x, q, b1, o1, HX, ea, g0, g1, Q0, QL0, QC0⟩ := HSR.out.at_gr (j := i2) hi
  have HOK := xH1 (HF.out.gr i2 hi)
  rw [← HX.out] at HOK
  have j0 : (0 : Int) ≤ (i2 : Int) := by omega
  have j1 : (i2 : Int) < (v.gr.n : Int) := by rw [HSR.out.gr.len]; omega
  have EA := xH1 ea
  clear hi ea on0 on1 HSR
  have hno : (j : Int) ∉ oT s := NOT.out.resolve_right (by decide)
  have HNW : Hid ((j : Int) ∉ x.waits) := xH1 (fun hm => HT.out.ne (List.mem_map.2 ⟨((j : Int), 6, ((i2 : Nat) : Int), 0), in_ents_grp HI.out (by rw [← HX.out]; exact List.mem_map.2 ⟨_, hm, rfl⟩), rfl⟩))
  have HE : Hid (stepD p s j = either p (setGrp s i2 (grpWait x j).1) j (grpWait x j).2) := xH1 (by
   unfold stepD
   rw [← HO.out, HX.out]
   rfl)
  obtain ⟨bb, hbb⟩ : ∃ b, b = (grpWait x j).2 := ⟨_, rfl⟩
  have HBB := xH1 hbb
  rw [← hbb] at HE
  clear hno hbb
  go_upto_region 27 with fail
  have cs := h.fr.c9 3 rfl
  have co := h.fr.c3 1 rfl
  rw [EA.out] at cs
  go_wp2_with fail
  refine (specWaitGroup_ok x q.a q.n q.c j _ QL0.out.symm QC0.out Q0.out HOK.out T6.out HNW.out).mono ?_
  rintro e w2 ⟨y, r, hy, rfl, hr, hb⟩
  have bA : Below w2.heap.size w2 (Go.World.alloc w2 (.cells #[.int .i64 y.count, .slice r.a r.n r.c] 85)) := xA1
  have HY := xH1 hy
  clear hy
  have hq := h.apart (hr.below bA)
  have kN : Blk (Go.World.alloc w2 (.cells #[.int .i64 y.count, .slice r.a r.n r.c] 85)) w2.heap.size #[.int .i64 y.count, .slice r.a r.n r.c] 85 := Blk.new _ _ _
  replace h := (h.call hb).call bA
  clear cs co hr hb bA g0 g1
  go_upto_region 28 with fail
  obtain ⟨WA, hWA⟩ : ∃ x, x = (Go.World.alloc w2 (.cells #[.int .i64 y.count, .slice r.a r.n r.c] 85)) := ⟨_, rfl⟩
  rw [← hWA] at h kN hq ⊢
  clear hWA
  rw [← HY.out] at HE
  rw [← HBB.out]
  obtain ⟨gt, eg, hgm, j2, j2', h6, hP, fz0, ⟨y0, cg0⟩, fz1, ⟨y1, cg1⟩⟩ := h.putf_gr HI.out (x := y) (q := r) hq
  have cs := h.fr.c9 3 rfl
  rw [eg] at cs
  have co := h.fr.c3 1 rfl
  have n0 := kN.cell 0 rfl
  have n1 := kN.cell 1 rfl
  clear eg hq kN hP hgm
  go_upto_region 29 with fail
  obtain ⟨W3, hw, h7⟩ := h6.named
  rw [← hw]
  clear h6 h hw cs co n0 fz0 cg0 n1 fz1 cg1
  go_upto_region 36 with fail
  obtain ⟨S1, hS1⟩ : ∃ x, x = { s with groups := s.groups.set i2 y } := ⟨_, rfl⟩
  have HPS : Hid (S1.places = s.places ∧ S1.status = s.status) := xH1 (by subst hS1; exact ⟨rfl, rfl⟩)
  have h := h7
  rw [← hS1] at h
  replace HE : Hid (stepD p s j = either p S1 j bb) := xH1 (by subst hS1; exact HE.out)
  clear hS1 h7
  have HTO : Hid (Told p s []) := xH1 told_nil
  replace h := h.sub (l' := .row (some ⟨gE, 0, none⟩) 0 0 3 1 (ints []) :: sb4 w u v zC fl) (.cons_cons _ (.cons _ (.refl _)))
  obtain ⟨vv, rfl⟩ : ∃ x, x = v := ⟨_, rfl⟩
  clear HBB HY
  cases bb
 rotate_left 2
 focus
  obtain ⟨on0, on1⟩ := op_on HOV.out
  rw [show shared p (7 : Int) = p.barriers.length by unfold shared; rw [if_neg (by omega), if_neg (by omega), if_neg (by omega), if_neg (by omega), if_pos rfl]] at on1
  dsimp only at on0 on1
  obtain ⟨i2, rfl⟩ : ∃ z : Nat, on = z := ⟨on.toNat, by omega⟩
  have hi : i2 < s.bars.length := by rw [HF.out.nba]; omega
  have HI := xH1 hi
  have HSR := xH1 h.rd
  obtain ⟨x, q, b1, o1, HX, ea, g0, g1, g2, Q0, QL0, QC0⟩ := HSR.out.at_ba (j := i2) hi
  have HOK := xH1 (HF.out.ba i2 hi)
  rw [← HX.out] at HOK
  have j0 : (0 : Int) ≤ (i2 : Int) := by omega
  have j1 : (i2 : Int) < (v.ba.n : Int) := by rw [HSR.out.ba.len]; omega
  have EA := xH1 ea
  clear hi ea on0 on1 HSR
  have hno : (j : Int) ∉ oT s := NOT.out.resolve_right (by decide)
  have HNW : Hid ((j : Int) ∉ x.waits) := xH1 (fun hm => HT.out.ne (List.mem_map.2 ⟨((j : Int), 7, ((i2 : Nat) : Int), 0), in_ents_bar HI.out (by rw [← HX.out]; exact List.mem_map.2 ⟨_, hm, rfl⟩), rfl⟩))
  have HRD' : Hid (x.round < 9999) := xH1 (by have h1 := HR.out.rnd i2; have h2 := HF.out.sum32; rw [← HX.out] at h1; omega)
  clear hno
  go_upto_region 31 with fail
  have cs := h.fr.c9 3 rfl
  have co := h.fr.c3 1 rfl
  rw [EA.out] at cs
  go_wp2_with fail
  refine (specArrive_ok x q.a q.n q.c j _ QL0.out.symm QC0.out Q0.out HOK.out.1 T6.out HNW.out HRD'.out).mono ?_
  rintro e w2 ⟨y, r, z, l, hm2, rfl, hr, hz, hb⟩
  have bA : Below w2.heap.size w2 (Go.World.alloc w2 (.cells #[.int .i64 y.parties, .int .i64 y.round, .slice r.a r.n r.c] 87)) := xA1
  have hu : SlR v.blks (Go.World.alloc w2 (.cells #[.int .i64 y.parties, .int .i64 y.round, .slice r.a r.n r.c] 87)) z (ints l) l.length := (told_r h hz).below bA
  have hq := h.apart (hr.below bA)
  have kN : Blk (Go.World.alloc w2 (.cells #[.int .i64 y.parties, .int .i64 y.round, .slice r.a r.n r.c] 87)) w2.heap.size #[.int .i64 y.parties, .int .i64 y.round, .slice r.a r.n r.c] 87 := Blk.new _ _ _
  replace h := (h.call hb).call bA
  clear cs co hr hb bA g0 g1 g2
  go_upto_region 32 with fail
  obtain ⟨WA, hWA⟩ : ∃ x, x = (Go.World.alloc w2 (.cells #[.int .i64 y.parties, .int .i64 y.round, .slice r.a r.n r.c] 87)) := ⟨_, rfl⟩
  rw [← hWA] at h kN hq hu ⊢
  clear hWA
  clear hz
  have HM := xH1 hm2
  have HTO : Hid (Told p s l) := xH1 (told_bar HF.out HI.out TT.out (by rw [← HX.out]; exact hm2))
  clear hm2
  obtain ⟨gt, eg, hgm, j2, j2', h6, hP, fz0, ⟨y0, cg0⟩, fz1, ⟨y1, cg1⟩, fz2, ⟨y2, cg2⟩⟩ := h.putf_ba HI.out (x := y) (q := r) hq
  have cs := h.fr.c9 3 rfl
  rw [eg] at cs
  have co := h.fr.c3 1 rfl
  have hu6 := hu.touch hP (fun b hb => by obtain rfl := xS1 hb; exact hgm)
  have n0 := kN.cell 0 rfl
  have n1 := kN.cell 1 rfl
  have n2 := kN.cell 2 rfl
  clear eg hq kN hP hgm hu
  go_upto_region 33 with fail
  obtain ⟨W3, hw, h7⟩ := h6.named
  rw [← hw] at hu6 ⊢
  clear h6 h hw cs co n0 fz0 cg0 n1 fz1 cg1 n2 fz2 cg2
  have zn := hu6.len
  obtain ⟨za, zn', zc⟩ := z
  rcases l with _ | ⟨l0, l1⟩
  focus
   obtain rfl : zn' = 0 := zn
   clear hu6 HTO
   have HE : Hid (stepD p s j = setStat (setBar s i2 y) j 1) := xH1 (by
    unfold stepD
    rw [← HO.out]
    show doCome p s j ⟨7, ((i2 : Nat) : Int), ar⟩ = _
    unfold doCome
    dsimp only
    rw [show ((i2 : Nat) : Int).toNat = i2 from rfl, ← HX.out, HM.out]
    exact if_pos rfl)
   obtain ⟨S1, hS1⟩ : ∃ x, x = { s with bars := s.bars.set i2 y } := ⟨_, rfl⟩
   have HPS : Hid (S1.places = s.places ∧ S1.status = s.status) := xH1 (by subst hS1; exact ⟨rfl, rfl⟩)
   have h := h7
   rw [← hS1] at h
   replace HE : Hid (stepD p s j = setStat S1 j 1) := xH1 (by subst hS1; exact HE.out)
   clear hS1 h7
   replace h := h.sub (l' := .row (some ⟨gE, 0, none⟩) 0 0 3 1 (ints []) :: sb4 w u v zC fl) (.cons_cons _ (.cons _ (.refl _)))
   obtain ⟨vv, rfl⟩ : ∃ x, x = v := ⟨_, rfl⟩
  rotate_left
  ·have HE : Hid (stepD p s j = goAll p (setBar s i2 y) (l0 :: l1)) := xH1 (by
    unfold stepD
    rw [← HO.out]
    show doCome p s j ⟨7, ((i2 : Nat) : Int), ar⟩ = _
    unfold doCome
    dsimp only
    rw [show ((i2 : Nat) : Int).toNat = i2 from rfl, ← HX.out, HM.out]
    exact if_neg (by simp))
   have zn1 : 0 < ((zn' : Nat) : Int) := by rw [show zn' = (l0 :: l1).length from zn]; simp only [List.length_cons]; omega
   have cs := h7.fr.c9 3 rfl
   have cp := h7.fr.c5 4 rfl
   clear zn
   go_wp2_with fail
   refine (specOn7_sf h7 HP.out HVS.out hu6 (by have := HTO.out.1; omega) P8.out HTO.out.2 PL8.out).mono ?_
   rintro e W5 ⟨rfl, h⟩
   clear h7 hu6 zn1 cs cp
   have cz := h.c9 2 rfl
   have g := h.set9 2 rfl (.slice v.pl.a v.pl.n v.pl.c) (.slice v.st.a v.st.n v.st.c) (.slice v.se.a v.se.n v.se.c) (.slice v.on.a v.on.n v.on.c) (.slice v.gr.a v.gr.n v.gr.c) (.slice v.ba.a v.ba.n v.ba.c) (.slice v.ch.a v.ch.n v.ch.c) (.slice v.sa.a v.sa.n v.sa.c) (.int .i64 v.fl)
   go_wp2
   exact bodyPost_ret (v := StV.val v) (by simp [results, Try.results37, go_sem, g.c9 2 rfl]) rfl ⟨v, _, rfl, by rw [HE.out]; exact g.sub (.cons _ (.cons _ (.cons _ (.cons _ (.cons _ (.refl _))))))⟩
 rotate_left
 ·have n1 : (kd == 1) = false := by simp only [beq_eq_false_iff_ne]; omega
  have n2 : (kd == 2) = false := by simp only [beq_eq_false_iff_ne]; omega
  have n3 : (kd == 3) = false := by simp only [beq_eq_false_iff_ne]; omega
  have n4 : (kd == 4) = false := by simp only [beq_eq_false_iff_ne]; omega
  have n5 : (kd == 5) = false := by simp only [beq_eq_false_iff_ne]; omega
  have n6 : (kd == 6) = false := by simp only [beq_eq_false_iff_ne]; omega
  have n7 : (kd == 7) = false := by simp only [beq_eq_false_iff_ne]; omega
  go_upto_region 5 with fail
  have cs := h.fr.c9 3 rfl
  have cp := h.fr.c5 4 rfl
  have co := h.fr.c3 1 rfl
  go_wp2_with fail
  refine (specChan7_sf u p v L s (j : Int) w0 _ _ h HP.out HR.out HT.out ⟨kd, on, ar⟩ HO.out hkk).mono ?_
  rintro e Wc ⟨v', L', rfl, h2⟩
  clear cs cp co h
  have cz := h2.c9 2 rfl
  have g := h2.set9 2 rfl (.slice v'.pl.a v'.pl.n v'.pl.c) (.slice v'.st.a v'.st.n v'.st.c) (.slice v'.se.a v'.se.n v'.se.c) (.slice v'.on.a v'.on.n v'.on.c) (.slice v'.gr.a v'.gr.n v'.gr.c) (.slice v'.ba.a v'.ba.n v'.ba.c) (.slice v'.ch.a v'.ch.n v'.ch.c) (.slice v'.sa.a v'.sa.n v'.sa.c) (.int .i64 v'.fl)
  go_wp2
  exact bodyPost_ret (v := StV.val v') (by simp [results, Try.results37, go_sem, g.c9 2 rfl]) rfl ⟨v', L', rfl, g.sub (.cons _ (.cons _ (.cons _ (.cons _ (.cons _ (.refl _))))))⟩
 all_goals first
  |
   have HOF : Hid (stepD p s j = setStat S1 j 1) := xH1 HE.out
   clear HE
   have HE := HOF
   clear HOF
   obtain ⟨v, rfl⟩ : ∃ x, x = vv := ⟨_, rfl⟩
   obtain ⟨gs, es, -, -⟩ := owns_at h.st.st (by rw [h.st.nst]; have := P8.out; have := congrArg List.length HPS.out.2; omega)
   have cs := h.fr.c9 2 rfl
   rw [es] at cs
   have q1 := h.stAt es (j : Int) (by have := TT.out; have := P8.out; have := congrArg List.length HPS.out.2; show j < _; omega)
   have tm : (j : Int) < (v.st.n : Int) := by rw [h.st.nst]; have := TT.out; have := P8.out; have := congrArg List.length HPS.out.2; omega
   have h2 := h.setSt es (j : Int) 1
   rw [show ((j : Nat) : Int).toNat = j from rfl] at h2 q1
   clear es h
   go_upto_region 38 with fail
   obtain ⟨W4, hw, h⟩ := h2.named
   rw [← hw]
   clear hw h2 q1 tm cs
   have cs := h.fr.c9 2 rfl
   have cz := h.c9 1 rfl
   have g := h.set9 1 rfl (.slice v.pl.a v.pl.n v.pl.c) (.slice v.st.a v.st.n v.st.c) (.slice v.se.a v.se.n v.se.c) (.slice v.on.a v.on.n v.on.c) (.slice v.gr.a v.gr.n v.gr.c) (.slice v.ba.a v.ba.n v.ba.c) (.slice v.ch.a v.ch.n v.ch.c) (.slice v.sa.a v.sa.n v.sa.c) (.int .i64 v.fl)
   go_wp2
   exact bodyPost_ret (v := StV.val v) (by simp [results, Try.results37, go_sem, g.c9 1 rfl]) rfl ⟨v, _, rfl, by rw [HE.out]; exact g.sub (.cons _ (.cons _ (.cons _ (.cons _ (.refl _)))))⟩
  |
   have hzn := xH1 (h.rowR 0 rfl).len
   go_wp2_with fail
   refine h.on_region (t := (j : Int)) 3 2 0 rfl rfl rfl (Nat.le_trans (Nat.le_of_eq hzn.out) (Nat.le_trans HTO.out.1 (by decide))) (by decide) (by decide) rfl rfl rfl rfl ?_
   intro a' c' g W' h2
   refine rk_end ?_
   clear h
   go_wp2_with fail
   refine (specOn7_sf h2 HP.out HVS.out (h2.rowR 0 rfl) (by have := HTO.out.1; simp only [List.length_append, List.length_singleton]; omega) (by rw [HPS.out.1, HPS.out.2]; exact P8.out) (by
    intro z hz
    rw [HPS.out.1]
    rcases xP1 hz with hz | hz
    ·exact HTO.out.2 z hz
    ·obtain rfl := xS1 hz; exact TT.out) (by rw [HPS.out.1]; exact PL8.out)).mono ?_
   rintro e W5 ⟨rfl, h⟩
   clear h2
   have cz := h.c9 1 rfl
   have g := h.set9 1 rfl (.slice vv.pl.a vv.pl.n vv.pl.c) (.slice vv.st.a vv.st.n vv.st.c) (.slice vv.se.a vv.se.n vv.se.c) (.slice vv.on.a vv.on.n vv.on.c) (.slice vv.gr.a vv.gr.n vv.gr.c) (.slice vv.ba.a vv.ba.n vv.ba.c) (.slice vv.ch.a vv.ch.n vv.ch.c) (.slice vv.sa.a vv.sa.n vv.sa.c) (.int .i64 vv.fl)
   go_wp2
   exact bodyPost_ret (v := StV.val vv) (by simp [results, Try.results37, go_sem, g.c9 1 rfl]) rfl ⟨vv, _, rfl, by rw [HE.out]; exact g.sub (.cons _ (.cons _ (.cons _ (.cons _ (.refl _)))))⟩
end Go.Proofs.Ytfpgijihiifogaa
