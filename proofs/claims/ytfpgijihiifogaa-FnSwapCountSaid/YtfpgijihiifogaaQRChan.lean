/- Part of a proof: RChan. -/
import Derived.Test.YtfpgijihiifogaaQSfPut
import Derived.Test.YtfpgijihiifogaaQPRChn
import Derived.Test.YtfpgijihiifogaaQRStep
set_option maxRecDepth 100000
set_option maxHeartbeats 16000000
namespace Go.Proofs.Ytfpgijihiifogaa
open Go.RowKit
theorem specChan7_sf (u : PV) (p : Pg) (v : StV) (L : StL) (s : StD) (t : Int) (w0 w : World) (fl : List It) (h : Sf w0 w fl v L s) (hp : RdP w0 u p) (hf : Run p s) (ht : Turn p s t) (o : OpD) (ho : o = opAt p s t) (hk : o.kind = 8 ∨ o.kind = 9 ∨ o.kind = 10) :
  Calls Try.prog 56 #[.agg #[.slice u.s u.ns u.cs, .slice u.g u.ng u.cg, .slice u.b u.nb u.cb, .slice u.r u.nr u.cr, .slice u.t u.nt u.ct], .agg #[.slice v.pl.a v.pl.n v.pl.c, .slice v.st.a v.st.n v.st.c, .slice v.se.a v.se.n v.se.c, .slice v.on.a v.on.n v.on.c, .slice v.gr.a v.gr.n v.gr.c, .slice v.ba.a v.ba.n v.ba.c, .slice v.ch.a v.ch.n v.ch.c, .slice v.sa.a v.sa.n v.sa.c, .int .i64 v.fl], .agg #[.int .i64 o.kind, .int .i64 o.on, .int .i64 o.arg], .int .i64 t] w (stepQ w0 fl p s t) := by
 have HP := xH1 hp
 have HR := xH1 hf
 have HF := xH1 hf.fits
 have HT := xH1 ht
 clear hp hf ht
 obtain ⟨j, rfl⟩ : ∃ j : Nat, t = (j : Int) := ⟨t.toNat, by have := HT.out.rg; omega⟩
 have P8 : Hid (0 < s.places.length ∧ s.places.length ≤ 8 ∧ s.places.length = s.status.length) := xH1 (by have h1 := HF.out.np; have h2 := HF.out.nst; have := (valid_small HF.out.prog).2.2.2.2.1; omega)
 have PL8 : Hid (∀ i, 0 ≤ s.places.getD i 0 ∧ s.places.getD i 0 ≤ 8) := xH1 (fun i => HF.out.place_le i)
 have TT : Hid (0 ≤ (j : Int) ∧ (j : Int) < p.threads.length ∧ (j : Int) < s.places.length) := xH1 (by have h1 := HF.out.np; have h2 := HT.out.rg; omega)
 have HVS := xH1 (valid_Small HF.out.prog HP.out)
 have T6 : Hid (0 ≤ (j : Int) ∧ (j : Int) < 6) := xH1 (by have := TT.out; have := (valid_small HF.out.prog).2.2.2.2.1; omega)
 have HOV : Hid _ := xH1 (HF.out.opv HT.out)
 have HO := xH1 ho
 clear ho
 obtain ⟨kd, on, ar⟩ := o
 dsimp only at hk ⊢
 rw [← HO.out] at HOV
 have HK := xH1 hk
 have h1 := (((h.alloc (pvC u) 31).alloc (svC v) 44).alloc #[.int .i64 kd, .int .i64 on, .int .i64 ar] 61).alloc zC 44
 simp only [World.size_alloc] at h1
 clear h hk
 go_enter Try.func56, Try.ntmps56
 go_upto_region 1 with fail
 obtain ⟨W, hw, h⟩ := h1.named
 rw [← hw]
 clear hw h1
 obtain ⟨bo, hbo⟩ : ∃ b, b = w.heap.size + 1 + 1 := ⟨_, rfl⟩
 obtain ⟨bz, hbz⟩ : ∃ b, b = bo + 1 := ⟨_, rfl⟩
 rw [← hbo, ← hbz] at h ⊢
 clear hbo hbz
 obtain ⟨on0, on1⟩ := op_on HOV.out
 rw [shared_ch (p := p) (o := ⟨kd, on, ar⟩) (by have := HK.out; dsimp only; omega)] at on1
 dsimp only at on0 on1
 obtain ⟨i2, rfl⟩ : ∃ z : Nat, on = z := ⟨on.toNat, by omega⟩
 have hi : i2 < s.chans.length := by rw [HF.out.nch]; omega
 have HI := xH1 hi
 have HSR := xH1 h.rd
 obtain ⟨x, q, b1, o1, HX, ea, g0, g1, g2, g3, g4, Q0, QL0, QC0, Q1, QL1, QC1, Q2, QL2, QC2⟩ := HSR.out.at_ch (j := i2) hi
 have HOK := xH1 (HF.out.ch i2 hi)
 rw [← HX.out] at HOK
 have j0 : (0 : Int) ≤ (i2 : Int) := by omega
 have j1 : (i2 : Int) < (v.ch.n : Int) := by rw [HSR.out.ch.len]; omega
 have cs := h.fr.c9 2 rfl
 rw [ea] at cs
 have co := h.fr.c3 1 rfl
 have h2 := h.alloc #[.int .i64 x.room, .slice q.1.a q.1.n q.1.c, .slice q.2.1.a q.2.1.n q.2.1.c, .slice q.2.2.a q.2.2.n q.2.2.c, .bool x.closed] 92
 have bA : Below W.heap.size W (W.alloc (.cells #[.int .i64 x.room, .slice q.1.a q.1.n q.1.c, .slice q.2.1.a q.2.1.n q.2.1.c, .slice q.2.2.a q.2.2.n q.2.2.c, .bool x.closed] 92)) := xA1
 replace Q0 := xH1 (Q0.out.below bA)
 replace Q1 := xH1 (Q1.out.below bA)
 replace Q2 := xH1 (Q2.out.below bA)
 clear hi on0 on1 HSR bA h
 go_upto_region 2 with fail
 clear cs co ea g0 g1 g2 g3 g4
 obtain ⟨bc, hbc⟩ : ∃ b, b = W.heap.size := ⟨_, rfl⟩
 obtain ⟨W2, hw, h⟩ := h2.named
 rw [← hw] at Q0 Q1 Q2 ⊢
 rw [← hbc] at h ⊢
 clear hw h2 hbc
 have co := h.fr.c3 2 rfl
 go_upto_region 3 with fail
 clear co j0 j1
 have NOT : Hid ((j : Int) ∉ oT s ∨ kd = 4) := xH1 (by
  rcases HT.out.st with ⟨-, h1⟩ | ⟨-, h1, -⟩
  ·exact .inl h1
  ·rw [← HO.out] at h1; exact .inr h1)
 rcases HK.out with rfl | rfl | rfl
 ·have hno : (j : Int) ∉ oT s := NOT.out.resolve_right (by decide)
  have HNS : Hid ((j : Int) ∉ x.senders.map (·.1)) := xH1 (fun hm => by
   obtain ⟨z, hz, e⟩ := List.mem_map.1 hm
   exact HT.out.ne (by rw [← e]; exact told_snd0 HI.out z (by rw [← HX.out]; exact hz)))
  have HNG : Hid ((j : Int) ∉ x.getters) := xH1 (fun hm => HT.out.ne (List.mem_map.2 ⟨((j : Int), 9, ((i2 : Nat) : Int), 0), in_ents_chn HI.out (by rw [← HX.out]; exact xQ1 (.inr (List.mem_map.2 ⟨_, hm, rfl⟩))), rfl⟩))
  have HSAY : Hid (s.said.length < 64) := xH1 (by have h1 := HR.out.said; have h2 := HF.out.sum32; omega)
  clear hno
  have hval := op_val HOV.out (.inr (.inr rfl))
  dsimp only at hval
  have HV := xH1 hval
  clear hval
  go_upto_region 4 with fail
  have cx := h.fr.c5 0 rfl
  have co := h.fr.c3 2 rfl
  go_wp2_with fail
  refine (specSendChan_fr x q.1.a q.2.1.a q.2.2.a q.1.n q.1.c q.2.1.n q.2.1.c q.2.2.n q.2.2.c j ar _ QL0.out.symm QL1.out.symm QL2.out.symm QC2.out Q0.out Q1.out Q2.out HOK.out.1 T6.out HV.out HNS.out HNG.out).mono ?_
  rintro e w1 ⟨y, s1, s2, s3, z, l, sent, bb, hy, rfl, FC⟩
  obtain ⟨h2, hq⟩ := h.chn_of FC #[.int .i64 y.room, .slice s1.a s1.n s1.c, .slice s2.a s2.n s2.c, .slice s3.a s3.n s3.c, .bool y.closed]
  clear FC cx co h
  have HM := xH1 hy
  clear hy
  go_upto_region 5 with fail
  obtain ⟨WA, hWA⟩ : ∃ x, x = w1.alloc (.cells #[.int .i64 y.room, .slice s1.a s1.n s1.c, .slice s2.a s2.n s2.c, .slice s3.a s3.n s3.c, .bool y.closed] 92) := ⟨_, rfl⟩
  rw [← hWA] at h2 hq ⊢
  clear hWA
  have h := h2
  clear h2
  have kN : Blk WA w1.heap.size #[.int .i64 y.room, .slice s1.a s1.n s1.c, .slice s2.a s2.n s2.c, .slice s3.a s3.n s3.c, .bool y.closed] 92 := h.fr.blk 0 rfl
  obtain ⟨bN, hbN⟩ : ∃ b, b = w1.heap.size := ⟨_, rfl⟩
  rw [← hbN] at h hq kN ⊢
  clear hbN
  cases bb
  ·clear hq kN
   go_upto_region 6 with fail
   have HE : Hid (stepD p s j = faultIt s 3) := xH1 (by
    unfold stepD
    rw [← HO.out]
    show doSend p s j ⟨8, ((i2 : Nat) : Int), ar⟩ = _
    unfold doSend
    dsimp only
    rw [show ((i2 : Nat) : Int).toNat = i2 from rfl, ← HX.out, HM.out, if_neg (by decide)])
   have cs := h.fr.c9 5 rfl
   go_wp2_with fail
   refine (specStop7_ok v 3 _).mono ?_
   rintro e Wc ⟨rfl, hb⟩
   replace h : Sf w0 Wc _ { v with fl := 3 } L (faultIt s 3) := ⟨h.fr.call hb, (h.st.below hb).fault 3⟩
   clear cs hb
   have cz := h.c9 3 rfl
   have g := h.set9 3 rfl (.slice { v with fl := 3 }.pl.a { v with fl := 3 }.pl.n { v with fl := 3 }.pl.c) (.slice { v with fl := 3 }.st.a { v with fl := 3 }.st.n { v with fl := 3 }.st.c) (.slice { v with fl := 3 }.se.a { v with fl := 3 }.se.n { v with fl := 3 }.se.c) (.slice { v with fl := 3 }.on.a { v with fl := 3 }.on.n { v with fl := 3 }.on.c) (.slice { v with fl := 3 }.gr.a { v with fl := 3 }.gr.n { v with fl := 3 }.gr.c) (.slice { v with fl := 3 }.ba.a { v with fl := 3 }.ba.n { v with fl := 3 }.ba.c) (.slice { v with fl := 3 }.ch.a { v with fl := 3 }.ch.n { v with fl := 3 }.ch.c) (.slice { v with fl := 3 }.sa.a { v with fl := 3 }.sa.n { v with fl := 3 }.sa.c) (.int .i64 { v with fl := 3 }.fl)
   go_wp2
   exact bodyPost_ret (v := StV.val { v with fl := 3 }) (by simp [results, Try.results56, go_sem, g.c9 3 rfl]) rfl ⟨{ v with fl := 3 }, _, rfl, by rw [HE.out]; exact g.sub (.cons _ (.cons _ (.cons _ (.cons _ (.cons _ (.cons _ (.cons _ (.refl _))))))))⟩
  have htl := told_send HF.out HI.out (t := (j : Int)) (v := ar) (y := y) (l := l) (b := sent) (by rw [← HX.out]; exact HM.out.trans (if_pos rfl))
  have HTO : Hid (Told p s l) := xH1 htl.1
  have hl2 := htl.2
  clear htl
  have HMY : Hid (chnSend x j ar = some (y, l, sent)) := xH1 (HM.out.trans (if_pos rfl))
  clear HM
  obtain ⟨gt, eg, hgm, j2, j2', h6, hP, fz0, ⟨y0, cg0⟩, fz1, ⟨y1, cg1⟩, fz2, ⟨y2, cg2⟩, fz3, ⟨y3, cg3⟩, fz4, ⟨y4, cg4⟩⟩ := h.putf_ch HI.out (x := y) (q := (s1, s2, s3)) hq
  have cs := h.fr.c9 5 rfl
  rw [eg] at cs
  have co := h.fr.c3 4 rfl
  have n0 := kN.cell 0 rfl
  have n1 := kN.cell 1 rfl
  have n2 := kN.cell 2 rfl
  have n3 := kN.cell 3 rfl
  have n4 := kN.cell 4 rfl
  clear eg hq kN hP hgm
  go_upto_region 8 with fail
  obtain ⟨W3, hw, h7⟩ := h6.named
  rw [← hw]
  clear h6 h hw cs co n0 fz0 cg0 n1 fz1 cg1 n2 fz2 cg2 n3 fz3 cg3 n4 fz4 cg4
  replace h7 := h7.sub (l' := .row z.a z.n z.c 3 1 (ints l) :: .blk bz zC 44 :: .blk bo #[.int .i64 8, .int .i64 (i2 : Int), .int .i64 ar] 61 :: .blk (w.heap.size + 1) (svC v) 44 :: .blk w.heap.size (pvC u) 31 :: fl) (.cons _ (.cons_cons _ (.cons _ (.refl _))))
  have zn := (h7.rowR 0 rfl).len
  obtain ⟨za, zn', zc⟩ := z
  rcases hl2 with rfl | ⟨g, rfl, rfl⟩
  ·obtain rfl : zn' = 0 := zn
   cases sent
   ·have HE : Hid (stepD p s j = setStat { s with chans := s.chans.set i2 y } j 1) := xH1 (by
     unfold stepD
     rw [← HO.out]
     show doSend p s j ⟨8, ((i2 : Nat) : Int), ar⟩ = _
     unfold doSend
     dsimp only
     rw [show ((i2 : Nat) : Int).toNat = i2 from rfl, ← HX.out, HMY.out]
     rfl)
    obtain ⟨gs, es, -, -⟩ := owns_at h7.st.st (by rw [h7.st.nst]; have := P8.out; show 0 < s.status.length; omega)
    have cs := h7.fr.c9 3 rfl
    rw [es] at cs
    have q1 := h7.stAt es (j : Int) (by have := TT.out; have := P8.out; show j < s.status.length; omega)
    have tm : (j : Int) < (v.st.n : Int) := by rw [h7.st.nst]; have := TT.out; have := P8.out; show (j : Int) < (s.status.length : Int); omega
    have h8 := h7.setSt es (j : Int) 1
    rw [show ((j : Nat) : Int).toNat = j from rfl] at h8 q1
    clear es h7
    go_upto_region 13 with fail
    obtain ⟨W4, hw, h⟩ := h8.named
    rw [← hw]
    clear hw h8 q1 tm cs
    have cs := h.fr.c9 3 rfl
    have cp := h.fr.c5 4 rfl
    go_wp2_with fail
    refine (specOn7_sf h HP.out HVS.out (h.rowR 0 rfl) (by simp) (by have h9 := P8.out; refine ⟨h9.1, h9.2.1, ?_⟩; show s.places.length = (s.status.set _ _).length; rw [List.length_set]; exact h9.2.2) (by simp) PL8.out).mono ?_
    rintro e W5 ⟨rfl, h9⟩
    clear cs cp h
    have cz := h9.c9 1 rfl
    have g := h9.set9 1 rfl (.slice v.pl.a v.pl.n v.pl.c) (.slice v.st.a v.st.n v.st.c) (.slice v.se.a v.se.n v.se.c) (.slice v.on.a v.on.n v.on.c) (.slice v.gr.a v.gr.n v.gr.c) (.slice v.ba.a v.ba.n v.ba.c) (.slice v.ch.a v.ch.n v.ch.c) (.slice v.sa.a v.sa.n v.sa.c) (.int .i64 v.fl)
    go_wp2
    exact bodyPost_ret (v := StV.val v) (by simp [results, Try.results56, go_sem, g.c9 1 rfl]) rfl ⟨v, _, rfl, by rw [HE.out]; exact g.sub (.cons _ (.cons _ (.cons _ (.cons _ (.cons _ (.refl _))))))⟩
   ·have HE : Hid (stepD p s j = goAll p { s with chans := s.chans.set i2 y } ([] ++ [(j : Int)])) := xH1 (by
     unfold stepD
     rw [← HO.out]
     show doSend p s j ⟨8, ((i2 : Nat) : Int), ar⟩ = _
     unfold doSend
     dsimp only
     rw [show ((i2 : Nat) : Int).toNat = i2 from rfl, ← HX.out, HMY.out]
     rfl)
    go_upto_region 11 with fail
    have h8 := h7.alloc #[.int .i64 j] 3
    clear h7
    go_upto_region 13 with (at_builtin; refine h8.appI 1 rfl _ _ rfl rfl rfl [(j : Int)] rfl rfl (Rd.of_blk (h8.fr.blk 0 rfl)) (Nat.le_of_ble_eq_true rfl) ?_; intro a3 c3 W9 h10; have h11 := h10.sub (.cons _ (.refl _)))
    obtain ⟨W6, hw, h⟩ := h11.named
    rw [← hw]
    clear hw h11 h10 h8
    have cs := h.fr.c9 3 rfl
    have cp := h.fr.c5 4 rfl
    go_wp2_with fail
    refine (specOn7_sf h HP.out HVS.out (h.rowR 0 rfl) (by have := HTO.out.1; simp only [List.length_append, List.length_singleton]; omega) P8.out (by
     intro z hz
     rcases xP1 hz with hz | hz
     ·exact HTO.out.2 z hz
     ·obtain rfl := xS1 hz; exact TT.out) PL8.out).mono ?_
    rintro e W5 ⟨rfl, h9⟩
    clear cs cp h
    have cz := h9.c9 1 rfl
    have g := h9.set9 1 rfl (.slice v.pl.a v.pl.n v.pl.c) (.slice v.st.a v.st.n v.st.c) (.slice v.se.a v.se.n v.se.c) (.slice v.on.a v.on.n v.on.c) (.slice v.gr.a v.gr.n v.gr.c) (.slice v.ba.a v.ba.n v.ba.c) (.slice v.ch.a v.ch.n v.ch.c) (.slice v.sa.a v.sa.n v.sa.c) (.int .i64 v.fl)
    go_wp2
    exact bodyPost_ret (v := StV.val v) (by simp [results, Try.results56, go_sem, g.c9 1 rfl]) rfl ⟨v, _, rfl, by rw [HE.out]; exact g.sub (.cons _ (.cons _ (.cons _ (.cons _ (.cons _ (.refl _))))))⟩
  ·obtain rfl : zn' = 1 := zn
   have HE : Hid (stepD p s j = goAll p (sayIt { s with chans := s.chans.set i2 y } ar) ([g] ++ [(j : Int)])) := xH1 (by
    unfold stepD
    rw [← HO.out]
    show doSend p s j ⟨8, ((i2 : Nat) : Int), ar⟩ = _
    unfold doSend
    dsimp only
    rw [show ((i2 : Nat) : Int).toNat = i2 from rfl, ← HX.out, HMY.out]
    rfl)
   have hsa : v.sa.n < 64 := by rw [h7.st.nsa]; exact HSAY.out
   have cs := h7.fr.c9 3 rfl
   have co := h7.fr.c3 2 rfl
   have h8 := h7.alloc #[.int .i64 ar] 3
   clear h7
   go_upto_region 10 with (at_builtin; refine h8.app_sa rfl _ _ rfl rfl rfl (Rd.of_blk (h8.fr.blk 0 rfl)) (by omega) ?_; intro r W9 h10; have cs := h10.fr.c9 4 rfl; have h11 := (h10.set 4 rfl 7 r.val).sub (.cons _ (.refl _)))
   obtain ⟨W6, hw, h12⟩ := h11.named
   rw [← hw]
   clear hw h11 h10 h8 cs co
   go_upto_region 11 with fail
   have h8 := h12.alloc #[.int .i64 j] 3
   clear h12
   go_upto_region 13 with (at_builtin; refine h8.appI 1 rfl _ _ rfl rfl rfl [(j : Int)] rfl rfl (Rd.of_blk (h8.fr.blk 0 rfl)) (Nat.le_of_ble_eq_true rfl) ?_; intro a3 c3 W9 h10; have h11 := h10.sub (.cons _ (.refl _)))
   obtain ⟨W7, hw, h⟩ := h11.named
   rw [← hw]
   clear hw h11 h10 h8
   have cs := h.fr.c9 3 rfl
   have cp := h.fr.c5 4 rfl
   go_wp2_with fail
   refine (specOn7_sf h HP.out HVS.out (h.rowR 0 rfl) (by have := HTO.out.1; simp only [List.length_append, List.length_singleton]; omega) P8.out (by
    intro z hz
    rcases xP1 hz with hz | hz
    ·exact HTO.out.2 z hz
    ·obtain rfl := xS1 hz; exact TT.out) PL8.out).mono ?_
   rintro e W5 ⟨rfl, h9⟩
   clear cs cp h
   have cz := h9.c9 1 rfl
   have g := h9.set9 1 rfl (.slice { v with sa := r }.pl.a { v with sa := r }.pl.n { v with sa := r }.pl.c) (.slice { v with sa := r }.st.a { v with sa := r }.st.n { v with sa := r }.st.c) (.slice { v with sa := r }.se.a { v with sa := r }.se.n { v with sa := r }.se.c) (.slice { v with sa := r }.on.a { v with sa := r }.on.n { v with sa := r }.on.c) (.slice { v with sa := r }.gr.a { v with sa := r }.gr.n { v with sa := r }.gr.c) (.slice { v with sa := r }.ba.a { v with sa := r }.ba.n { v with sa := r }.ba.c) (.slice { v with sa := r }.ch.a { v with sa := r }.ch.n { v with sa := r }.ch.c) (.slice { v with sa := r }.sa.a { v with sa := r }.sa.n { v with sa := r }.sa.c) (.int .i64 { v with sa := r }.fl)
   go_wp2
   exact bodyPost_ret (v := StV.val { v with sa := r }) (by simp [results, Try.results56, go_sem, g.c9 1 rfl]) rfl ⟨{ v with sa := r }, _, rfl, by rw [HE.out]; exact g.sub (.cons _ (.cons _ (.cons _ (.cons _ (.cons _ (.refl _))))))⟩
 ·have hno : (j : Int) ∉ oT s := NOT.out.resolve_right (by decide)
  have HNS : Hid ((j : Int) ∉ x.senders.map (·.1)) := xH1 (fun hm => by
   obtain ⟨z, hz, e⟩ := List.mem_map.1 hm
   exact HT.out.ne (by rw [← e]; exact told_snd0 HI.out z (by rw [← HX.out]; exact hz)))
  have HNG : Hid ((j : Int) ∉ x.getters) := xH1 (fun hm => HT.out.ne (List.mem_map.2 ⟨((j : Int), 9, ((i2 : Nat) : Int), 0), in_ents_chn HI.out (by rw [← HX.out]; exact xQ1 (.inr (List.mem_map.2 ⟨_, hm, rfl⟩))), rfl⟩))
  have HSAY : Hid (s.said.length < 64) := xH1 (by have h1 := HR.out.said; have h2 := HF.out.sum32; omega)
  clear hno
  go_upto_region 15 with fail
  have cx := h.fr.c5 0 rfl
  have co := h.fr.c3 2 rfl
  go_wp2_with fail
  refine (specGetChan_fr x q.1.a q.2.1.a q.2.2.a q.1.n q.1.c q.2.1.n q.2.1.c q.2.2.n q.2.2.c j _ QL0.out.symm QL1.out.symm QL2.out.symm QC1.out QC2.out Q0.out Q1.out Q2.out HOK.out.1 T6.out HNS.out HNG.out).mono ?_
  rintro e w1 ⟨y, s1, s2, s3, z, l, val, how, hy, rfl, FC⟩
  obtain ⟨h2, hq⟩ := h.chn_of FC #[.int .i64 y.room, .slice s1.a s1.n s1.c, .slice s2.a s2.n s2.c, .slice s3.a s3.n s3.c, .bool y.closed]
  clear FC cx co h
  have HM := xH1 hy
  clear hy
  go_upto_region 16 with fail
  obtain ⟨WA, hWA⟩ : ∃ x, x = w1.alloc (.cells #[.int .i64 y.room, .slice s1.a s1.n s1.c, .slice s2.a s2.n s2.c, .slice s3.a s3.n s3.c, .bool y.closed] 92) := ⟨_, rfl⟩
  rw [← hWA] at h2 hq ⊢
  clear hWA
  have h := h2
  clear h2
  have kN : Blk WA w1.heap.size #[.int .i64 y.room, .slice s1.a s1.n s1.c, .slice s2.a s2.n s2.c, .slice s3.a s3.n s3.c, .bool y.closed] 92 := h.fr.blk 0 rfl
  obtain ⟨bN, hbN⟩ : ∃ b, b = w1.heap.size := ⟨_, rfl⟩
  rw [← hbN] at h hq kN ⊢
  clear hbN
  have htg := told_get HF.out HI.out (t := (j : Int)) (v := val) (how := how) (y := y) (l := l) (by rw [← HX.out]; exact HM.out)
  have HTO : Hid (Told p s l) := xH1 htg.1
  have HH0 := xH1 htg.2.1
  have hhow := htg.2.2
  clear htg
  obtain ⟨gt, eg, hgm, j2, j2', h6, hP, fz0, ⟨y0, cg0⟩, fz1, ⟨y1, cg1⟩, fz2, ⟨y2, cg2⟩, fz3, ⟨y3, cg3⟩, fz4, ⟨y4, cg4⟩⟩ := h.putf_ch HI.out (x := y) (q := (s1, s2, s3)) hq
  have cs := h.fr.c9 5 rfl
  rw [eg] at cs
  have co := h.fr.c3 4 rfl
  have n0 := kN.cell 0 rfl
  have n1 := kN.cell 1 rfl
  have n2 := kN.cell 2 rfl
  have n3 := kN.cell 3 rfl
  have n4 := kN.cell 4 rfl
  clear eg hq kN hP hgm
  go_upto_region 17 with fail
  obtain ⟨W3, hw, h7⟩ := h6.named
  rw [← hw]
  clear h6 h hw cs co n0 fz0 cg0 n1 fz1 cg1 n2 fz2 cg2 n3 fz3 cg3 n4 fz4 cg4
  replace h7 := h7.sub (l' := .row z.a z.n z.c 3 1 (ints l) :: .blk bz zC 44 :: .blk bo #[.int .i64 9, .int .i64 (i2 : Int), .int .i64 ar] 61 :: .blk (w.heap.size + 1) (svC v) 44 :: .blk w.heap.size (pvC u) 31 :: fl) (.cons _ (.cons_cons _ (.cons _ (.refl _))))
  rcases hhow with rfl | rfl | rfl
  ·obtain rfl := HH0.out rfl
   have HE : Hid (stepD p s j = setStat { s with chans := s.chans.set i2 y } j 1) := xH1 (by
    unfold stepD
    rw [← HO.out]
    show doGet p s j ⟨9, ((i2 : Nat) : Int), ar⟩ = _
    unfold doGet
    dsimp only
    rw [show ((i2 : Nat) : Int).toNat = i2 from rfl, ← HX.out, HM.out]
    rfl)
   obtain ⟨gs, es, -, -⟩ := owns_at h7.st.st (by rw [h7.st.nst]; have := P8.out; show 0 < s.status.length; omega)
   have cs := h7.fr.c9 3 rfl
   rw [es] at cs
   have q1 := h7.stAt es (j : Int) (by have := TT.out; have := P8.out; show j < s.status.length; omega)
   have tm : (j : Int) < (v.st.n : Int) := by rw [h7.st.nst]; have := TT.out; have := P8.out; show (j : Int) < (s.status.length : Int); omega
   have h8 := h7.setSt es (j : Int) 1
   rw [show ((j : Nat) : Int).toNat = j from rfl] at h8 q1
   clear es h7
   go_upto_region 19 with fail
   obtain ⟨W4, hw, h⟩ := h8.named
   rw [← hw]
   clear hw h8 q1 tm cs
   have cs := h.fr.c9 3 rfl
   have cz := h.c9 1 rfl
   have g := h.set9 1 rfl (.slice v.pl.a v.pl.n v.pl.c) (.slice v.st.a v.st.n v.st.c) (.slice v.se.a v.se.n v.se.c) (.slice v.on.a v.on.n v.on.c) (.slice v.gr.a v.gr.n v.gr.c) (.slice v.ba.a v.ba.n v.ba.c) (.slice v.ch.a v.ch.n v.ch.c) (.slice v.sa.a v.sa.n v.sa.c) (.int .i64 v.fl)
   go_wp2
   exact bodyPost_ret (v := StV.val v) (by simp [results, Try.results56, go_sem, g.c9 1 rfl]) rfl ⟨v, _, rfl, by rw [HE.out]; exact g.sub (.cons _ (.cons _ (.cons _ (.cons _ (.cons _ (.refl _))))))⟩
  ·have HE : Hid (stepD p s j = goAll p (sayIt { s with chans := s.chans.set i2 y } val) (l ++ [(j : Int)])) := xH1 (by
    unfold stepD
    rw [← HO.out]
    show doGet p s j ⟨9, ((i2 : Nat) : Int), ar⟩ = _
    unfold doGet
    dsimp only
    rw [show ((i2 : Nat) : Int).toNat = i2 from rfl, ← HX.out, HM.out]
    rfl)
   have hsa : v.sa.n < 64 := by rw [h7.st.nsa]; exact HSAY.out
   have cs := h7.fr.c9 3 rfl
   have h8 := h7.alloc #[.int .i64 val] 3
   clear h7
   go_upto_region 22 with (at_builtin; refine h8.app_sa rfl _ _ rfl rfl rfl (Rd.of_blk (h8.fr.blk 0 rfl)) (by omega) ?_; intro r W9 h10; have cs := h10.fr.c9 4 rfl; have h11 := (h10.set 4 rfl 7 r.val).sub (l' := .row z.a z.n z.c 3 1 (ints l) :: .blk bz zC 44 :: .blk bo #[.int .i64 9, .int .i64 (i2 : Int), .int .i64 ar] 61 :: .blk (w.heap.size + 1) (svC { v with sa := r }) 44 :: .blk w.heap.size (pvC u) 31 :: fl) (.cons _ (.refl _)))
   obtain ⟨W6, hw, h12⟩ := h11.named
   rw [← hw]
   clear hw h11 h10 h8 cs
   obtain ⟨vv, hvv⟩ : ∃ x, x = { v with sa := r } := ⟨_, rfl⟩
   rw [← hvv] at h12
   clear hvv
   have hzn := xH1 (h12.rowR 0 rfl).len
   go_wp2_with fail
   refine h12.on_region (t := (j : Int)) 4 3 0 rfl rfl rfl (Nat.le_trans (Nat.le_of_eq hzn.out) (Nat.le_trans HTO.out.1 (by decide))) (by decide) (by decide) rfl rfl rfl rfl ?_
   intro a' c' g W' h2
   refine rk_end ?_
   clear h12
   go_wp2_with fail
   refine (specOn7_sf h2 HP.out HVS.out (h2.rowR 0 rfl) (by have := HTO.out.1; simp only [List.length_append, List.length_singleton]; omega) P8.out (by
    intro z hz
    rcases xP1 hz with hz | hz
    ·exact HTO.out.2 z hz
    ·obtain rfl := xS1 hz; exact TT.out) PL8.out).mono ?_
   rintro e W5 ⟨rfl, h9⟩
   clear h2
   have cz := h9.c9 1 rfl
   have g := h9.set9 1 rfl (.slice vv.pl.a vv.pl.n vv.pl.c) (.slice vv.st.a vv.st.n vv.st.c) (.slice vv.se.a vv.se.n vv.se.c) (.slice vv.on.a vv.on.n vv.on.c) (.slice vv.gr.a vv.gr.n vv.gr.c) (.slice vv.ba.a vv.ba.n vv.ba.c) (.slice vv.ch.a vv.ch.n vv.ch.c) (.slice vv.sa.a vv.sa.n vv.sa.c) (.int .i64 vv.fl)
   go_wp2
   exact bodyPost_ret (v := StV.val vv) (by simp [results, Try.results56, go_sem, g.c9 1 rfl]) rfl ⟨vv, _, rfl, by rw [HE.out]; exact g.sub (.cons _ (.cons _ (.cons _ (.cons _ (.cons _ (.refl _))))))⟩
  ·have HE : Hid (stepD p s j = goAll p { s with chans := s.chans.set i2 y } (l ++ [(j : Int)])) := xH1 (by
    unfold stepD
    rw [← HO.out]
    show doGet p s j ⟨9, ((i2 : Nat) : Int), ar⟩ = _
    unfold doGet
    dsimp only
    rw [show ((i2 : Nat) : Int).toNat = i2 from rfl, ← HX.out, HM.out]
    rfl)
   have hzn := xH1 (h7.rowR 0 rfl).len
   go_wp2_with fail
   refine h7.on_region (t := (j : Int)) 4 3 0 rfl rfl rfl (Nat.le_trans (Nat.le_of_eq hzn.out) (Nat.le_trans HTO.out.1 (by decide))) (by decide) (by decide) rfl rfl rfl rfl ?_
   intro a' c' g W' h2
   refine rk_end ?_
   clear h7
   go_wp2_with fail
   refine (specOn7_sf h2 HP.out HVS.out (h2.rowR 0 rfl) (by have := HTO.out.1; simp only [List.length_append, List.length_singleton]; omega) P8.out (by
    intro z hz
    rcases xP1 hz with hz | hz
    ·exact HTO.out.2 z hz
    ·obtain rfl := xS1 hz; exact TT.out) PL8.out).mono ?_
   rintro e W5 ⟨rfl, h9⟩
   clear h2
   have cz := h9.c9 1 rfl
   have g := h9.set9 1 rfl (.slice v.pl.a v.pl.n v.pl.c) (.slice v.st.a v.st.n v.st.c) (.slice v.se.a v.se.n v.se.c) (.slice v.on.a v.on.n v.on.c) (.slice v.gr.a v.gr.n v.gr.c) (.slice v.ba.a v.ba.n v.ba.c) (.slice v.ch.a v.ch.n v.ch.c) (.slice v.sa.a v.sa.n v.sa.c) (.int .i64 v.fl)
   go_wp2
   exact bodyPost_ret (v := StV.val v) (by simp [results, Try.results56, go_sem, g.c9 1 rfl]) rfl ⟨v, _, rfl, by rw [HE.out]; exact g.sub (.cons _ (.cons _ (.cons _ (.cons _ (.cons _ (.refl _))))))⟩
 ·go_upto_region 23 with fail
  have cx := h.fr.c5 0 rfl
  have co := h.fr.c3 2 rfl
  go_wp2_with fail
  refine (specCloseChan_fr x q.1.a q.2.1.a q.2.2.a q.1.n q.1.c q.2.1.n q.2.1.c q.2.2.n q.2.2.c _ QL0.out.symm QL1.out.symm QL2.out.symm QC2.out Q0.out Q1.out Q2.out HOK.out.1).mono ?_
  rintro e w1 ⟨y, s1, s2, s3, z, l, bb, hy, rfl, FC⟩
  obtain ⟨h2, hq⟩ := h.chn_of FC #[.int .i64 y.room, .slice s1.a s1.n s1.c, .slice s2.a s2.n s2.c, .slice s3.a s3.n s3.c, .bool y.closed]
  clear FC cx co h
  have HM := xH1 hy
  clear hy
  go_upto_region 24 with fail
  obtain ⟨WA, hWA⟩ : ∃ x, x = w1.alloc (.cells #[.int .i64 y.room, .slice s1.a s1.n s1.c, .slice s2.a s2.n s2.c, .slice s3.a s3.n s3.c, .bool y.closed] 92) := ⟨_, rfl⟩
  rw [← hWA] at h2 hq ⊢
  clear hWA
  have h := h2
  clear h2
  have kN : Blk WA w1.heap.size #[.int .i64 y.room, .slice s1.a s1.n s1.c, .slice s2.a s2.n s2.c, .slice s3.a s3.n s3.c, .bool y.closed] 92 := h.fr.blk 0 rfl
  obtain ⟨bN, hbN⟩ : ∃ b, b = w1.heap.size := ⟨_, rfl⟩
  rw [← hbN] at h hq kN ⊢
  clear hbN
  cases bb
  ·clear hq kN
   go_upto_region 25 with fail
   have HE : Hid (stepD p s j = faultIt s 4) := xH1 (by
    unfold stepD
    rw [← HO.out]
    show doClose p s j ⟨10, ((i2 : Nat) : Int), ar⟩ = _
    unfold doClose
    dsimp only
    rw [show ((i2 : Nat) : Int).toNat = i2 from rfl, ← HX.out, HM.out, if_neg (by decide)])
   have cs := h.fr.c9 5 rfl
   go_wp2_with fail
   refine (specStop7_ok v 4 _).mono ?_
   rintro e Wc ⟨rfl, hb⟩
   replace h : Sf w0 Wc _ { v with fl := 4 } L (faultIt s 4) := ⟨h.fr.call hb, (h.st.below hb).fault 4⟩
   clear cs hb
   have cz := h.c9 3 rfl
   have g := h.set9 3 rfl (.slice { v with fl := 4 }.pl.a { v with fl := 4 }.pl.n { v with fl := 4 }.pl.c) (.slice { v with fl := 4 }.st.a { v with fl := 4 }.st.n { v with fl := 4 }.st.c) (.slice { v with fl := 4 }.se.a { v with fl := 4 }.se.n { v with fl := 4 }.se.c) (.slice { v with fl := 4 }.on.a { v with fl := 4 }.on.n { v with fl := 4 }.on.c) (.slice { v with fl := 4 }.gr.a { v with fl := 4 }.gr.n { v with fl := 4 }.gr.c) (.slice { v with fl := 4 }.ba.a { v with fl := 4 }.ba.n { v with fl := 4 }.ba.c) (.slice { v with fl := 4 }.ch.a { v with fl := 4 }.ch.n { v with fl := 4 }.ch.c) (.slice { v with fl := 4 }.sa.a { v with fl := 4 }.sa.n { v with fl := 4 }.sa.c) (.int .i64 { v with fl := 4 }.fl)
   go_wp2
   exact bodyPost_ret (v := StV.val { v with fl := 4 }) (by simp [results, Try.results56, go_sem, g.c9 3 rfl]) rfl ⟨{ v with fl := 4 }, _, rfl, by rw [HE.out]; exact g.sub (.cons _ (.cons _ (.cons _ (.cons _ (.cons _ (.cons _ (.cons _ (.refl _))))))))⟩
  have HMY : Hid (chnClose x = some (y, l)) := xH1 (HM.out.trans (if_pos rfl))
  clear HM
  have HTO : Hid (Told p s l) := xH1 (told_close HF.out HI.out (by rw [← HX.out]; exact HMY.out))
  have HE : Hid (stepD p s j = goAll p { s with chans := s.chans.set i2 y } (l ++ [(j : Int)])) := xH1 (by
   unfold stepD
   rw [← HO.out]
   show doClose p s j ⟨10, ((i2 : Nat) : Int), ar⟩ = _
   unfold doClose
   dsimp only
   rw [show ((i2 : Nat) : Int).toNat = i2 from rfl, ← HX.out, HMY.out]
   rfl)
  obtain ⟨gt, eg, hgm, j2, j2', h6, hP, fz0, ⟨y0, cg0⟩, fz1, ⟨y1, cg1⟩, fz2, ⟨y2, cg2⟩, fz3, ⟨y3, cg3⟩, fz4, ⟨y4, cg4⟩⟩ := h.putf_ch HI.out (x := y) (q := (s1, s2, s3)) hq
  have cs := h.fr.c9 5 rfl
  rw [eg] at cs
  have co := h.fr.c3 4 rfl
  have n0 := kN.cell 0 rfl
  have n1 := kN.cell 1 rfl
  have n2 := kN.cell 2 rfl
  have n3 := kN.cell 3 rfl
  have n4 := kN.cell 4 rfl
  clear eg hq kN hP hgm
  go_upto_region 27 with fail
  obtain ⟨W3, hw, h7⟩ := h6.named
  rw [← hw]
  clear h6 h hw cs co n0 fz0 cg0 n1 fz1 cg1 n2 fz2 cg2 n3 fz3 cg3 n4 fz4 cg4
  replace h7 := h7.sub (l' := .row z.a z.n z.c 3 1 (ints l) :: .blk bz zC 44 :: .blk bo #[.int .i64 10, .int .i64 (i2 : Int), .int .i64 ar] 61 :: .blk (w.heap.size + 1) (svC v) 44 :: .blk w.heap.size (pvC u) 31 :: fl) (.cons _ (.cons_cons _ (.cons _ (.refl _))))
  have hzn := xH1 (h7.rowR 0 rfl).len
  go_wp2_with fail
  refine h7.on_region (t := (j : Int)) 4 3 0 rfl rfl rfl (Nat.le_trans (Nat.le_of_eq hzn.out) (Nat.le_trans HTO.out.1 (by decide))) (by decide) (by decide) rfl rfl rfl rfl ?_
  intro a' c' g W' h2
  refine rk_end ?_
  clear h7
  go_wp2_with fail
  refine (specOn7_sf h2 HP.out HVS.out (h2.rowR 0 rfl) (by have := HTO.out.1; simp only [List.length_append, List.length_singleton]; omega) P8.out (by
   intro z hz
   rcases xP1 hz with hz | hz
   ·exact HTO.out.2 z hz
   ·obtain rfl := xS1 hz; exact TT.out) PL8.out).mono ?_
  rintro e W5 ⟨rfl, h9⟩
  clear h2
  have cz := h9.c9 1 rfl
  have g := h9.set9 1 rfl (.slice v.pl.a v.pl.n v.pl.c) (.slice v.st.a v.st.n v.st.c) (.slice v.se.a v.se.n v.se.c) (.slice v.on.a v.on.n v.on.c) (.slice v.gr.a v.gr.n v.gr.c) (.slice v.ba.a v.ba.n v.ba.c) (.slice v.ch.a v.ch.n v.ch.c) (.slice v.sa.a v.sa.n v.sa.c) (.int .i64 v.fl)
  go_wp2
  exact bodyPost_ret (v := StV.val v) (by simp [results, Try.results56, go_sem, g.c9 1 rfl]) rfl ⟨v, _, rfl, by rw [HE.out]; exact g.sub (.cons _ (.cons _ (.cons _ (.cons _ (.cons _ (.refl _))))))⟩
end Go.Proofs.Ytfpgijihiifogaa
