/- Part of a proof: ROnce. -/
import Derived.Test.YtfpgijihiifogaaQSfPut
import Derived.Test.YtfpgijihiifogaaQRStep
set_option maxRecDepth 100000
set_option maxHeartbeats 16000000
namespace Go.Proofs.Ytfpgijihiifogaa
open Go.RowKit
theorem specOnce7_sf (u : PV) (p : Pg) (v : StV) (L : StL) (s : StD) (t : Int) (w0 w : World) (fl : List It) (h : Sf w0 w fl v L s) (hp : RdP w0 u p) (hf : Run p s) (ht : Turn p s t) (o : OpD) (ho : o = opAt p s t) (hk : o.kind = 4) :
  Calls Try.prog 51 #[.agg #[.slice u.s u.ns u.cs, .slice u.g u.ng u.cg, .slice u.b u.nb u.cb, .slice u.r u.nr u.cr, .slice u.t u.nt u.ct], .agg #[.slice v.pl.a v.pl.n v.pl.c, .slice v.st.a v.st.n v.st.c, .slice v.se.a v.se.n v.se.c, .slice v.on.a v.on.n v.on.c, .slice v.gr.a v.gr.n v.gr.c, .slice v.ba.a v.ba.n v.ba.c, .slice v.ch.a v.ch.n v.ch.c, .slice v.sa.a v.sa.n v.sa.c, .int .i64 v.fl], .agg #[.int .i64 o.kind, .int .i64 o.on, .int .i64 o.arg], .int .i64 t] w (stepQ w0 fl p s t) := by
 have HP := xH1 hp
 have HR := xH1 hf
 have HF := xH1 hf.fits
 have HT := xH1 ht
 clear hp hf ht
 obtain ⟨j, rfl⟩ : ∃ j : Nat, t = (j : Int) := ⟨t.toNat, by have := HT.out.rg; omega⟩
 have P8 : Hid (0 < s.places.length ∧ s.places.length ≤ 8 ∧ s.places.length = s.status.length) := xH1 (by have h1 := HF.out.np; have h2 := HF.out.nst; have := (valid_small HF.out.prog).2.2.2.2.1; omega)
 have PL8 : Hid (∀ i, 0 ≤ s.places.getD i 0 ∧ s.places.getD i 0 ≤ 8) := xH1 (fun i => HF.out.place_le i)
 have TT : Hid (0 ≤ (j : Int) ∧ (j : Int) < p.threads.length ∧ (j : Int) < s.places.length) := xH1 (by have h1 := HF.out.np; have h2 := HT.out.rg; omega)
 have HVS := xH1 (valid_Small HF.out.prog HP.out)
 have T6 : Hid (0 ≤ (j : Int) ∧ (j : Int) < 6) := xH1 (by have := TT.out; have := (valid_small HF.out.prog).2.2.2.2.1; omega)
 have HOV : Hid _ := xH1 (HF.out.opv HT.out)
 have HO := xH1 ho
 clear ho
 obtain ⟨kd, on, ar⟩ := o
 dsimp only at hk ⊢
 rw [← HO.out] at HOV
 subst hk
 have h1 := (((h.alloc (pvC u) 31).alloc (svC v) 44).alloc #[.int .i64 4, .int .i64 on, .int .i64 ar] 61).alloc zC 44
 simp only [World.size_alloc] at h1
 clear h
 have hno0 := HT.out.st
 rw [← HO.out] at hno0
 dsimp only at hno0
 obtain ⟨bs, os, es, gs⟩ := h1.rd.st.rd.int (by have := P8.out; omega)
 replace gs := gs j (by have := TT.out; have := P8.out; omega)
 obtain ⟨sx, esx⟩ : ∃ x, x = s.status.getD j 0 := ⟨_, rfl⟩
 rw [← esx] at gs
 have ESX := xH1 esx
 rw [show ((j : Nat) : Int).toNat = j from rfl, ← esx] at hno0
 have k0 : (0 : Int) ≤ (j : Int) := by omega
 have k3 : (j : Int) < (v.st.n : Int) := by rw [h1.st.nst]; have := TT.out; have := P8.out; omega
 have HST := xH1 hno0
 have ES := xH1 es
 clear esx hno0 es
 go_enter Try.func51, Try.ntmps51
 go_upto_region 1 with fail
 obtain ⟨W, hw, h⟩ := h1.named
 rw [← hw] at gs ⊢
 clear hw h1
 obtain ⟨bo, hbo⟩ : ∃ b, b = w.heap.size + 1 + 1 := ⟨_, rfl⟩
 obtain ⟨bz, hbz⟩ : ∃ b, b = bo + 1 := ⟨_, rfl⟩
 rw [← hbo, ← hbz] at h ⊢
 clear hbo hbz
 obtain ⟨on0, on1⟩ := op_on HOV.out
 rw [show shared p (4 : Int) = 3 by unfold shared; rw [if_neg (by omega), if_neg (by omega), if_pos rfl]] at on1
 dsimp only at on0 on1
 obtain ⟨i2, rfl⟩ : ∃ z : Nat, on = z := ⟨on.toNat, by omega⟩
 have hi : i2 < s.onces.length := by rw [HF.out.non]; omega
 have HI := xH1 hi
 have HSR := xH1 h.rd
 obtain ⟨x, q, b1, o1, HX, ea, g0, g1, g2, g3, Q0, QL0, QC0⟩ := HSR.out.at_on (j := i2) hi
 have HOK := xH1 (HF.out.on i2 hi)
 rw [← HX.out] at HOK
 have j0 : (0 : Int) ≤ (i2 : Int) := by omega
 have j1 : (i2 : Int) < (v.on.n : Int) := by rw [HSR.out.on.len]; omega
 have EA := xH1 ea
 clear hi ea on0 on1 HSR
 have hval := op_val HOV.out (.inr (.inl rfl))
 dsimp only at hval
 have HV := xH1 hval
 have cs := h.fr.c9 2 rfl
 rw [ES.out] at cs
 clear hval
 by_cases h2 : sx = 2
 ·subst h2
  have how := own_at ((HST.out.resolve_left (fun h => absurd h.1 (by decide))).2.2)
  rw [← HX.out] at how
  have hok := HOK.out
  have HXX := xH1 HX.out
  clear HX HOK HST
  obtain ⟨x0, x1, x2, ws⟩ := x
  dsimp only at how
  obtain ⟨-, rfl, rfl⟩ := how
  have hv0 : x2 = 0 := by
   rcases hok with h | h | h
   ·exact absurd h.1 (by simp)
   ·exact h.2.2.1
   ·exact absurd h.1 (by simp)
  subst hv0
  have HOK := xH1 hok
  clear hok
  dsimp only at g0 g1 g2 g3 Q0 QL0
  have HTO : Hid (Told p s ws) := xH1 (by have := told_once HF.out HI.out; rw [← HXX.out] at this; exact this)
  go_upto_region 2 with fail
  clear cs gs k3
  go_wp2_with fail
  obtain ⟨u3, rfl⟩ : ∃ x, x = W := ⟨_, rfl⟩
  apply wp_rcs 17 9 3 1 4 83 (fun u w => ∃ (z : SlV), u = .tuple #[.agg #[.int .i64 2, .int .i64 j, .int .i64 ar, .slice none 0 0], .slice z.a z.n z.c, .bool true] ∧ w.ownsRow u3.heap.size 3 1 (.slice z.a z.n z.c) z.n (ints ws)) [.k _, .k _, .k _, .k _, .k _, .k _, .k _, .k _, .k _] (fun _ _ _ hb ⟨z, e, m0⟩ => ⟨z, e, owns_below m0 hb⟩) (fun _ _ _ hT ⟨z, e, m0⟩ => ⟨z, e, owns_ts m0 hT (by decide)⟩) (fun _ _ ⟨_, e, _⟩ => ⟨_, e, rfl⟩) (fun _ _ ⟨_, e, _⟩ => ⟨_, congrArg (fun z => tupGet z 0) e, rfl, rfl⟩) ?s1 ?e1
  case s1 =>
   intro hM1 hM2
   repeat' apply And.intro
   all_goals first | trivial | (intro ρ w1 L hG hny hfr hd; obtain ⟨fc, ff⟩ := fcff hfr; have f5 := hfr (.tmp 5) rfl; have f6 := hfr (.tmp 6) rfl; have f3 := hfr (.tmp 3) rfl; have F1 := h.fr.call hG; have cs := F1.c9 2 rfl; have co := F1.c3 1 rfl; have g0 := (fun _ => keepc hG g0) F1; have g1 := (fun _ => keepc hG g1) F1; have g2 := (fun _ => keepc hG g2) F1; have g3 := (fun _ => keepc hG g3) F1; clear F1)
   exact rt0; exact rt1; exact rt0; exact rt1
   ·have d : ρ (.tmp _) = _ := hd.1; have d' : ρ (.tmp _) = _ := hd.2.1; rw [EA.out] at d; exact rt0
   exact rt1; exact rt0; exact rt0; exact rt1
   ·obtain ⟨d0, d1, d2, -⟩ := hd
    have d0 : ρ (.tmp 27) = _ := d0
    have d1 : ρ (.tmp 28) = _ := d1
    have d2 : ρ (.tmp 30) = _ := d2
    refine gtC hG (by go_simp) (specFinishOnce_ok ws q.a q.n q.c j ar w1 QL0.out.symm QC0.out (Q0.out.below hG) HOK.out HV.out) ?_
    rintro e w2 ⟨z, rfl, hz, hb⟩
    exact ⟨_, rfl, hb, ⟨z, rfl, owns_mono hz hG.size⟩⟩
   exact rtM; exact rtX; exact rtX; exact rtX; exact rtL; exact rtS; exact rtG
  intro w2 hG
  refine rk_end2 ?_
  intro u0 hu0 u1 hu1 e0 he0 e1 he1 e2 he2 al hal so hso as0 has0
  obtain rfl : u1 = u0 := hu1.1
  obtain rfl : e0 = tupGet u1 0 := he0.1
  obtain rfl : e1 = tupGet u1 1 := he1.1
  obtain rfl : e2 = tupGet u1 2 := he2.1
  obtain rfl : as0 = tupGet u1 1 := has0
  have kN : ∃ g, al = .pointer (some ⟨g, 0, none⟩) ∧ Blk w2 g (aggC (tupGet u1 0)) 83 := hso
  obtain ⟨gA1, dA1, rfl, -, -, hgA1⟩ := hal
  obtain ⟨gA, eA, kN⟩ := kN
  obtain rfl : gA1 = gA := by simpa using eA
  clear hu1 he0 he1 he2 hso eA
  obtain ⟨z, rfl, hm0⟩ := hu0
  replace kN : Blk w2 gA1 #[.int .i64 2, .int .i64 j, .int .i64 ar, .slice none 0 0] 83 := kN
  simp only [tupGet_list, List.getD_cons_zero, List.getD_cons_succ]
  have hq : onceR (foots (.row z.a z.n z.c 3 1 (ints ws) :: sb5 w bz bo u v #[.int .i64 4, .int .i64 (i2 : Int), .int .i64 ar] zC fl) ++ v.blks) w2 ⟨2, (j : Int), ar, []⟩ nilV := SlR.nil _ _
  replace h := h.row hG hm0
  clear g0 g1 g2 g3 hG hm0
  have HE : Hid (stepD p s j = goAll p { s with onces := s.onces.set i2 ⟨2, (j : Int), ar, []⟩ } (ws ++ [(j : Int)])) := xH1 (by
   unfold stepD
   rw [← HO.out]
   show doOnce p s j ⟨4, ((i2 : Nat) : Int), ar⟩ = _
   unfold doOnce
   dsimp only
   rw [show ((i2 : Nat) : Int).toNat = i2 from rfl, show ((j : Nat) : Int).toNat = j from rfl, ← ESX.out, if_pos rfl, ← HXX.out]
   rfl)
  obtain ⟨gt, eg, hgm, j2, j2', h6, hP, fz0, ⟨y0, cg0⟩, fz1, ⟨y1, cg1⟩, fz2, ⟨y2, cg2⟩, fz3, ⟨y3, cg3⟩⟩ := h.putf_on HI.out (x := ⟨2, (j : Int), ar, []⟩) (q := nilV) hq
  have cs := h.fr.c9 3 rfl
  rw [eg] at cs
  have co := h.fr.c3 2 rfl
  rw [show nilV.val = .slice none 0 0 from rfl] at h6
  have n0 := kN.cell 0 rfl
  have n1 := kN.cell 1 rfl
  have n2 := kN.cell 2 rfl
  have n3 := kN.cell 3 rfl
  clear eg hq kN hP hgm
  go_upto_region 4 with fail
  obtain ⟨W3, hw, h7⟩ := h6.named
  rw [← hw]
  clear h6 h hw cs co n0 fz0 cg0 n1 fz1 cg1 n2 fz2 cg2 n3 fz3 cg3
  have hzn := xH1 (h7.rowR 0 rfl).len
  go_wp2_with fail
  refine h7.on_region (t := (j : Int)) 4 3 0 rfl rfl rfl (Nat.le_trans (Nat.le_of_eq hzn.out) (Nat.le_trans HTO.out.1 (by decide))) (by decide) (by decide) rfl rfl rfl rfl ?_
  intro a' c' g W' h2
  refine rk_end ?_
  clear h7
  go_wp2_with fail
  refine (specOn7_sf h2 HP.out HVS.out (h2.rowR 0 rfl) (by have := HTO.out.1; simp only [List.length_append, List.length_singleton]; omega) P8.out (by
   intro z hz
   rcases xP1 hz with hz | hz
   ·exact HTO.out.2 z hz
   ·obtain rfl := xS1 hz; exact TT.out) PL8.out).mono ?_
  rintro e W5 ⟨rfl, h⟩
  clear h2
  have cz := h.c9 1 rfl
  have g := h.set9 1 rfl (.slice v.pl.a v.pl.n v.pl.c) (.slice v.st.a v.st.n v.st.c) (.slice v.se.a v.se.n v.se.c) (.slice v.on.a v.on.n v.on.c) (.slice v.gr.a v.gr.n v.gr.c) (.slice v.ba.a v.ba.n v.ba.c) (.slice v.ch.a v.ch.n v.ch.c) (.slice v.sa.a v.sa.n v.sa.c) (.int .i64 v.fl)
  go_wp2
  exact bodyPost_ret (v := StV.val v) (by simp [results, Try.results51, go_sem, g.c9 1 rfl]) rfl ⟨v, _, rfl, by rw [HE.out]; exact g.sub (.cons _ (.cons _ (.cons _ (.cons _ (.cons _ (.refl _))))))⟩
 have hno : (j : Int) ∉ oT s := by
  rcases HST.out with h | h
  ·exact h.2
  ·exact absurd h.1 h2
 have HNO : Hid (x.state = 1 → (j : Int) ≠ x.owner ∧ (j : Int) ∉ x.waits) := xH1 (by have := once_free HI.out HT.out.ne hno; rw [← HX.out] at this; exact this)
 have N2 := xH1 h2
 clear HST hno
 go_upto_region 5 with fail
 clear gs cs h2 k3
 have cs := h.fr.c9 2 rfl
 have co := h.fr.c3 1 rfl
 rw [EA.out] at cs
 go_wp2_with fail
 refine (specEnterOnce_ok x q.a q.n q.c j _ QL0.out.symm QC0.out Q0.out HOK.out T6.out HNO.out).mono ?_
 rintro e w2 ⟨y, r, hy, rfl, hr, hb⟩
 have bA : Below w2.heap.size w2 (Go.World.alloc w2 (.cells #[.int .i64 y.state, .int .i64 y.owner, .int .i64 y.value, .slice r.a r.n r.c] 83)) := xA1
 have HY := xH1 hy
 clear hy
 have hq := h.apart (hr.below bA)
 have kN : Blk (Go.World.alloc w2 (.cells #[.int .i64 y.state, .int .i64 y.owner, .int .i64 y.value, .slice r.a r.n r.c] 83)) w2.heap.size #[.int .i64 y.state, .int .i64 y.owner, .int .i64 y.value, .slice r.a r.n r.c] 83 := Blk.new _ _ _
 replace h := (h.call hb).call bA
 clear cs co hr hb bA g0 g1 g2 g3
 go_upto_region 6 with fail
 obtain ⟨WA, hWA⟩ : ∃ x, x = (Go.World.alloc w2 (.cells #[.int .i64 y.state, .int .i64 y.owner, .int .i64 y.value, .slice r.a r.n r.c] 83)) := ⟨_, rfl⟩
 rw [← hWA] at h kN hq ⊢
 clear hWA
 obtain ⟨gt, eg, hgm, j2, j2', h6, hP, fz0, ⟨y0, cg0⟩, fz1, ⟨y1, cg1⟩, fz2, ⟨y2, cg2⟩, fz3, ⟨y3, cg3⟩⟩ := h.putf_on HI.out (x := y) (q := r) hq
 have cs := h.fr.c9 2 rfl
 rw [eg] at cs
 have co := h.fr.c3 1 rfl
 have n0 := kN.cell 0 rfl
 have n1 := kN.cell 1 rfl
 have n2 := kN.cell 2 rfl
 have n3 := kN.cell 3 rfl
 clear eg hq kN hP hgm
 go_upto_region 7 with fail
 obtain ⟨W3, hw, h7⟩ := h6.named
 rw [← hw]
 clear h6 h hw cs co n0 fz0 cg0 n1 fz1 cg1 n2 fz2 cg2 n3 fz3 cg3
 have hst3 : x.state = 0 ∨ x.state = 1 ∨ x.state = 2 := by
  rcases HOK.out with h | h | h
  ·exact .inl h.1
  ·exact .inr (.inl h.1)
  ·exact .inr (.inr h.1)
 obtain ⟨sq, hsq⟩ : ∃ z, z = x.state := ⟨_, rfl⟩
 rw [← hsq] at hst3 ⊢
 have HSQ := xH1 hsq
 clear hsq
 rcases hst3 with rfl | rfl | rfl
 ·have HE : Hid (stepD p s j = setStat { s with onces := s.onces.set i2 y } j 2) := xH1 (by
   unfold stepD
   rw [← HO.out]
   show doOnce p s j ⟨4, ((i2 : Nat) : Int), ar⟩ = _
   unfold doOnce
   dsimp only
   rw [show ((i2 : Nat) : Int).toNat = i2 from rfl, show ((j : Nat) : Int).toNat = j from rfl, ← ESX.out, if_neg N2.out, ← HX.out, if_pos HSQ.out.symm, ← HY.out]
   rfl)
  obtain ⟨gs, es, -, -⟩ := owns_at h7.st.st (by rw [h7.st.nst]; have := P8.out; show 0 < s.status.length; omega)
  have cs := h7.fr.c9 2 rfl
  rw [es] at cs
  have q1 := h7.stAt es (j : Int) (by have := TT.out; have := P8.out; show j < s.status.length; omega)
  have tm : (j : Int) < (v.st.n : Int) := by rw [h7.st.nst]; have := TT.out; have := P8.out; show (j : Int) < (s.status.length : Int); omega
  have h := h7.setSt es (j : Int) 2
  rw [show ((j : Nat) : Int).toNat = j from rfl] at h q1
  clear es h7
  go_upto_region 13 with fail
  obtain ⟨W4, hw, h8⟩ := h.named
  rw [← hw]
  clear hw h q1 tm cs
  have cs := h8.fr.c9 2 rfl
  have cz := h8.c9 0 rfl
  have g := h8.set9 0 rfl (.slice v.pl.a v.pl.n v.pl.c) (.slice v.st.a v.st.n v.st.c) (.slice v.se.a v.se.n v.se.c) (.slice v.on.a v.on.n v.on.c) (.slice v.gr.a v.gr.n v.gr.c) (.slice v.ba.a v.ba.n v.ba.c) (.slice v.ch.a v.ch.n v.ch.c) (.slice v.sa.a v.sa.n v.sa.c) (.int .i64 v.fl)
  go_wp2
  exact bodyPost_ret (v := StV.val v) (by simp [results, Try.results51, go_sem, g.c9 0 rfl]) rfl ⟨v, _, rfl, by rw [HE.out]; exact g.sub (.cons _ (.cons _ (.cons _ (.cons _ (.refl _)))))⟩
 ·have HE : Hid (stepD p s j = setStat { s with onces := s.onces.set i2 y } j 1) := xH1 (by
   unfold stepD
   rw [← HO.out]
   show doOnce p s j ⟨4, ((i2 : Nat) : Int), ar⟩ = _
   unfold doOnce
   dsimp only
   rw [show ((i2 : Nat) : Int).toNat = i2 from rfl, show ((j : Nat) : Int).toNat = j from rfl, ← ESX.out, if_neg N2.out, ← HX.out, if_neg (by rw [← HSQ.out]; decide), if_pos HSQ.out.symm, ← HY.out]
   rfl)
  obtain ⟨gs, es, -, -⟩ := owns_at h7.st.st (by rw [h7.st.nst]; have := P8.out; show 0 < s.status.length; omega)
  have cs := h7.fr.c9 2 rfl
  rw [es] at cs
  have q1 := h7.stAt es (j : Int) (by have := TT.out; have := P8.out; show j < s.status.length; omega)
  have tm : (j : Int) < (v.st.n : Int) := by rw [h7.st.nst]; have := TT.out; have := P8.out; show (j : Int) < (s.status.length : Int); omega
  have h := h7.setSt es (j : Int) 1
  rw [show ((j : Nat) : Int).toNat = j from rfl] at h q1
  clear es h7
  go_upto_region 13 with fail
  obtain ⟨W4, hw, h8⟩ := h.named
  rw [← hw]
  clear hw h q1 tm cs
  have cs := h8.fr.c9 2 rfl
  have cz := h8.c9 0 rfl
  have g := h8.set9 0 rfl (.slice v.pl.a v.pl.n v.pl.c) (.slice v.st.a v.st.n v.st.c) (.slice v.se.a v.se.n v.se.c) (.slice v.on.a v.on.n v.on.c) (.slice v.gr.a v.gr.n v.gr.c) (.slice v.ba.a v.ba.n v.ba.c) (.slice v.ch.a v.ch.n v.ch.c) (.slice v.sa.a v.sa.n v.sa.c) (.int .i64 v.fl)
  go_wp2
  exact bodyPost_ret (v := StV.val v) (by simp [results, Try.results51, go_sem, g.c9 0 rfl]) rfl ⟨v, _, rfl, by rw [HE.out]; exact g.sub (.cons _ (.cons _ (.cons _ (.cons _ (.refl _)))))⟩
 have hyx : y = x := by rw [HY.out]; unfold onceEnter; rw [if_neg (by rw [← HSQ.out]; decide), if_neg (by rw [← HSQ.out]; decide)]
 have HYX : Hid (setOnce s i2 y = s) := xH1 (by rw [hyx, HX.out]; exact setOnce_self s i2)
 clear hyx
 have HE : Hid (stepD p s j = goAll p (setOnce s i2 y) [(j : Int)]) := xH1 (by
  unfold stepD
  rw [← HO.out]
  show doOnce p s j ⟨4, ((i2 : Nat) : Int), ar⟩ = _
  unfold doOnce
  dsimp only
  rw [show ((i2 : Nat) : Int).toNat = i2 from rfl, show ((j : Nat) : Int).toNat = j from rfl, ← ESX.out, if_neg N2.out, ← HX.out, if_neg (by rw [← HSQ.out]; decide), if_neg (by rw [← HSQ.out]; decide), HYX.out]
  rfl)
 have cs := h7.fr.c9 2 rfl
 have cp := h7.fr.c5 3 rfl
 have h2 := h7.alloc #[.int .i64 j] 3
 have hw : SlR v.blks _ ⟨some ⟨W3.heap.size, 0, none⟩, 1, 1⟩ (ints [(j : Int)]) [(j : Int)].length := ⟨rfl, Rd.of_blk (h2.fr.blk 0 rfl), .inr (fun b hb hm => by have h9 := (h7.st.from b hm).2; simp only [rowOf, Option.some.injEq] at hb; omega), Nat.le_refl _⟩
 go_wp2_with fail
 refine (specOn7_sf h2 HP.out HVS.out hw (by simp) P8.out (fun z hz' => by obtain rfl := xS1 hz'; exact TT.out) PL8.out).mono ?_
 rintro e W5 ⟨rfl, h⟩
 clear h2 hw h7 cs cp
 have cz := h.c9 1 rfl
 have g := h.set9 1 rfl (.slice v.pl.a v.pl.n v.pl.c) (.slice v.st.a v.st.n v.st.c) (.slice v.se.a v.se.n v.se.c) (.slice v.on.a v.on.n v.on.c) (.slice v.gr.a v.gr.n v.gr.c) (.slice v.ba.a v.ba.n v.ba.c) (.slice v.ch.a v.ch.n v.ch.c) (.slice v.sa.a v.sa.n v.sa.c) (.int .i64 v.fl)
 go_wp2
 exact bodyPost_ret (v := StV.val v) (by simp [results, Try.results51, go_sem, g.c9 1 rfl]) rfl ⟨v, _, rfl, by rw [HE.out]; exact g.sub (.cons _ (.cons _ (.cons _ (.cons _ (.cons _ (.refl _))))))⟩
end Go.Proofs.Ytfpgijihiifogaa
