/- Part of a proof: Without. -/
import Derived.Test.YtppoohbkkdgljaaVDelFunc2
set_option maxRecDepth 100000
set_option maxHeartbeats 16000000
namespace Go.Proofs.Ytppoohbkkdgljaa
open Go.RowKit
def zdQ (o : OpD) : Bool := decide (o.kind = 1)
def hush (l : List OpD) : List OpD := l.filter (fun o => !(zdQ o))
def za0 (ts : List (List OpD)) (k : Nat) : List (List OpD) := (ts.take k).map hush ++ ts.drop k
def zcr (p : Pg) : Option Pg := some (p.thr (p.threads.map hush))
def zaM (p : Pg) : Option Pg := zbm p 0 (zcr p)
theorem zgg (ts : List (List OpD)) : za0 ts 0 = ts := by simp [za0]
theorem zgV (ts : List (List OpD)) : za0 ts ts.length = ts.map hush := by simp [za0]
theorem zgX (ts : List (List OpD)) (k : Nat) (hk : k < ts.length) : (za0 ts k).getD k [] = ts.getD k [] := by
 unfold za0
 rw [List.getD_eq_getElem?_getD, List.getElem?_append_right (by simp; omega), List.length_map, List.length_take, Nat.min_eq_left (by omega), Nat.sub_self, List.getElem?_drop, Nat.add_zero, ← List.getD_eq_getElem?_getD]
theorem zf4 (ts : List (List OpD)) (k : Nat) (hk : k < ts.length) : (za0 ts k).set k (hush (ts.getD k [])) = za0 ts (k + 1) := by
 unfold za0
 have e : ((ts.take k).map hush).length = k := by rw [List.length_map, List.length_take]; omega
 rw [List.set_append_right _ _ (by omega), e, Nat.sub_self, List.drop_eq_getElem_cons hk, List.set_cons_zero, List.take_add_one, List.getElem?_eq_getElem hk]
 have e2 : ts.getD k [] = ts[k] := by simp [List.getD, hk]
 rw [e2]
 simp only [List.map_append, Option.toList_some, List.map_cons, List.map_nil, List.append_assoc, List.cons_append, List.nil_append]
theorem zjB (l : List OpD) : (hush l).length ≤ l.length := List.length_filter_le _ _
theorem zjf (o : OpD) (w : World) :
  Calls Try.prog 13 (#[ziQ o] ++ #[]) w fun e w' => e = .returned (.bool (zdQ o)) ∧ Below w.heap.size w w' := by
 have hd : (o.kind == 1) = zdQ o := by unfold zdQ; rfl
 have HD := xH1 hd
 clear hd
 go_enter Try.func13, Try.ntmps13
 go_wp2
 go_ret
 exact ⟨zt HD.out, xA1⟩
theorem zhG (p : Pg) (H : World) (hsm : zc3 p) :
  ziH H 11 #[] p (zcr p) := by
 intro u us W Bq hB hq hO hnd hfr kQ
 have hnt : p.threads.length = u.nt := by have := hO.ot.len; simpa [Pg.cells] using this
 have hnl := hsm.lt
 have e4 := kQ.cell 4 rfl
 have HNT := xH1 hnt
 have HSM := xH1 hsm.inn
 have hnt2 : u.nt ≤ 1048576 := by omega
 have HND := xH1 (zjJ hnd)
 have HFR := xH1 hfr
 have HO := xH1 hO
 have HK := xH1 kQ
 have HB := xH1 hB
 clear hnt hnl hnd hfr hO kQ hB hsm
 go_enter Try.func11, Try.ntmps11
 go_wp2
 go_loopw [9] (fun vk wr => ∃ (k : Nat) (us' : List Value), vk = .int .i64 k ∧ k ≤ u.nt ∧ Hid (OwnP wr u us' (p.thr (za0 p.threads k)).cells) ∧ Hid (fpV us' = fpV us) ∧ Hid (Blk wr Bq #[.slice u.s u.ns u.cs, .slice u.g u.ng u.cg, .slice u.b u.nb u.cb, .slice u.r u.nr u.cr, .slice u.t u.nt u.ct] 26) ∧ Hid (Below H.heap.size H wr)) (fun vk _ => u.nt - (intOf vk).toNat)
 case atStart =>
  refine ⟨0, us, rfl, by omega, ?_, xH1 rfl, HK, HB⟩
  rw [zgg]; exact HO
 case round =>
  obtain ⟨k, us', rfl, hk, HOr, HFr, HKr, HBr⟩ := hrel
  by_cases hlt : k < u.nt
  ·obtain ⟨T, eT, hT1, hT2⟩ := zaT HOr.out.ot.out (by omega)
   obtain ⟨xa, xc, exa, hrow⟩ := HOr.out.row hlt
   have erow : (p.thr (za0 p.threads k)).threads.getD k [] = p.threads.getD k [] := zgX _ _ (by rw [HNT.out]; omega)
   rw [erow] at exa hrow
   have hml : (p.threads.getD k []).length ≤ 1048576 := HSM.out k
   obtain ⟨m, hm⟩ : ∃ m, m = (p.threads.getD k []).length := ⟨_, rfl⟩
   rw [← hm] at exa hrow hml
   have hot := HOr.out.ot.out
   have hvl := HOr.out.ot.vlen
   have e4 := HKr.out.cell 4 rfl
   rw [eT] at hot e4
   have ga : wr.cell? ⟨T, k, none⟩ = some (.slice xa m xc) := by rw [hot.cellAt k (by omega), ← exa]; simp [List.getD, hvl, hlt]
   have hHT : H.heap.size ≤ T := HFR.out T (by unfold fpP fpT; rw [eT]; simp [zi])
   have hTX : T ∉ (zi xa).toList := fun h => by
    have h' : zi xa = some T := by simpa using h
    exact zl hot hrow zai.2.1.symm T rfl h'
   have hQX : Bq ∉ (zi xa).toList := fun h => by
    have h' : zi xa = some Bq := by simpa using h
    exact zac HKr.out hrow zai.2.2.2.2.1 h'
   have hQT : Bq ≠ T := fun e => zac HKr.out hot zai.2.2.2.1 (by rw [e]; rfl)
   have hXH : ∀ q ∈ (zi xa).toList, H.heap.size ≤ q := fun q hq' => by
    have hfe := HFr.out
    refine HFR.out q ?_
    have hm' : q ∈ fpV us' := zfS (i := k) (by omega) (by rw [exa, zP]; simpa using hq')
    rw [hfe] at hm'
    unfold fpP
    rw [zeV]
    simp [hm']
   have i0 : (0 : Int) ≤ (k : Int) := by omega
   have i1 : (k : Int) < (u.nt : Int) := by omega
   have HEXA := xH1 exa
   have HROW := xH1 hrow
   have HOT := xH1 hot
   have HM := xH1 hm
   have HET := xH1 eT
   clear exa hrow hvl hot hm erow eT
   go_wp2
   refine zb6 13 (by kernel_rfl) (by kernel_rfl) [fun dz uz wz => uz = .pointer (some ⟨Bq, 0, none⟩), fun dz uz wz => uz = .pointer (some ⟨Bq, 0, none⟩), fun dz uz wz => uz = .pointer (some ⟨Bq, 4, none⟩), fun dz uz wz => uz = .slice (some ⟨T, 0, none⟩) u.nt u.ct, fun dz uz wz => uz = .int .i64 k, fun dz uz wz => uz = .pointer (some ⟨Bq, 0, none⟩), fun dz uz wz => uz = .pointer (some ⟨Bq, 0, none⟩), fun dz uz wz => uz = .pointer (some ⟨Bq, 4, none⟩), fun dz uz wz => uz = .slice (some ⟨T, 0, none⟩) u.nt u.ct, fun dz uz wz => uz = .int .i64 k, fun dz uz wz => uz = .pointer (some ⟨T, k, none⟩), fun dz uz wz => uz = .slice xa m xc, fun dz uz wz => (∃ m' c' : Nat, uz = .slice xa m' c' ∧ wz.ownsRow 0 44 3 (.slice xa m' c') m' (opsV (hush (p.threads.getD k []))) ∧ wr.grownBy wz (zi xa))] (St1 12 (zm (zi xa).toList)) (fun _ _ => none) (zc4 12 (zi xa).toList wr) (zc4.start _ _ _) (zfc (fun _ _ h => h.size)) (zfo ⟨fun _ _ _ _ _ h => h, fun _ _ _ _ _ h => h, fun _ _ _ _ _ h => h, fun _ _ _ _ _ h => h, fun _ _ _ _ _ h => h, fun _ _ _ _ _ h => h, fun _ _ _ _ _ h => h, fun _ _ _ _ _ h => h, fun _ _ _ _ _ h => h, fun _ _ _ _ _ h => h, fun _ _ _ _ _ h => h, fun _ _ _ _ _ h => h, fun _ _ _ _ hb ⟨a, b, e, h, g⟩ => ⟨a, b, e, zj h hb, zh g (zbz hb)⟩, trivial⟩ ⟨.inr (fun _ _ _ _ _ h => h), .inr (fun _ _ _ _ _ h => h), .inr (fun _ _ _ _ _ h => h), .inr (fun _ _ _ _ _ h => h), .inr (fun _ _ _ _ _ h => h), .inr (fun _ _ _ _ _ h => h), .inr (fun _ _ _ _ _ h => h), .inr (fun _ _ _ _ _ h => h), .inr (fun _ _ _ _ _ h => h), .inr (fun _ _ _ _ _ h => h), .inr (fun _ _ _ _ _ h => h), .inr (fun _ _ _ _ _ h => h), .inl rfl, trivial⟩) ?_ ?_
   ·simp only [List.take_succ_cons, List.take_zero]
    refine ⟨?_, ?_, ?_, ?_, ?_, ?_, ?_, ?_, ?_, ?_, ?_, ?_, ?_, trivial⟩
    ·intro ρ w1 L hG hny hfr hd
     obtain ⟨fc, ff⟩ := xF1 hfr
     have f0 : ρ (.tmp 0) = .pointer (some ⟨Bq, 0, none⟩) := hfr _ rfl
     refine zf (u := .pointer (some ⟨Bq, 0, none⟩)) (w' := w1) (by go_simp) ⟨zD (by decide) xB1, rfl, xN1, hG.step (by decide) xB1⟩
    ·intro ρ w1 L hG hny hfr hd
     obtain ⟨fc, ff⟩ := xF1 hfr
     obtain ⟨d0, -⟩ := hd
     have d0 : (ρ (.tmp 12)) = .pointer (some ⟨Bq, 0, none⟩) := d0
     refine zf (u := .pointer (some ⟨Bq, 0, none⟩)) (w' := w1) (by go_simp) ⟨zD (by decide) xB1, rfl, xN1, hG.step (by decide) xB1⟩
    ·intro ρ w1 L hG hny hfr hd
     obtain ⟨fc, ff⟩ := xF1 hfr
     obtain ⟨d0, -⟩ := hd
     have d0 : (ρ (.tmp 13)) = .pointer (some ⟨Bq, 0, none⟩) := d0
     refine zf (u := .pointer (some ⟨Bq, 4, none⟩)) (w' := w1) (by go_simp) ⟨zD (by decide) xB1, rfl, xN1, hG.step (by decide) xB1⟩
    ·intro ρ w1 L hG hny hfr hd
     obtain ⟨fc, ff⟩ := xF1 hfr
     obtain ⟨d0, -⟩ := hd
     have d0 : (ρ (.tmp 14)) = .pointer (some ⟨Bq, 4, none⟩) := d0
     have e4 := zaR hG.2 e4 (hQX)
     refine zf (u := .slice (some ⟨T, 0, none⟩) u.nt u.ct) (w' := w1) (by go_simp) ⟨zD (by decide) xB1, rfl, xN1, hG.step (by decide) xB1⟩
    ·intro ρ w1 L hG hny hfr hd
     obtain ⟨fc, ff⟩ := xF1 hfr
     have f3 : ρ (.tmp 3) = .int .i64 k := hfr _ rfl
     refine zf (u := .int .i64 k) (w' := w1) (by go_simp) ⟨zD (by decide) xB1, rfl, xN1, hG.step (by decide) xB1⟩
    ·intro ρ w1 L hG hny hfr hd
     obtain ⟨fc, ff⟩ := xF1 hfr
     have f0 : ρ (.tmp 0) = .pointer (some ⟨Bq, 0, none⟩) := hfr _ rfl
     refine zf (u := .pointer (some ⟨Bq, 0, none⟩)) (w' := w1) (by go_simp) ⟨zD (by decide) xB1, rfl, xN1, hG.step (by decide) xB1⟩
    ·intro ρ w1 L hG hny hfr hd
     obtain ⟨fc, ff⟩ := xF1 hfr
     obtain ⟨d0, -⟩ := hd
     have d0 : (ρ (.tmp 17)) = .pointer (some ⟨Bq, 0, none⟩) := d0
     refine zf (u := .pointer (some ⟨Bq, 0, none⟩)) (w' := w1) (by go_simp) ⟨zD (by decide) xB1, rfl, xN1, hG.step (by decide) xB1⟩
    ·intro ρ w1 L hG hny hfr hd
     obtain ⟨fc, ff⟩ := xF1 hfr
     obtain ⟨d0, -⟩ := hd
     have d0 : (ρ (.tmp 18)) = .pointer (some ⟨Bq, 0, none⟩) := d0
     refine zf (u := .pointer (some ⟨Bq, 4, none⟩)) (w' := w1) (by go_simp) ⟨zD (by decide) xB1, rfl, xN1, hG.step (by decide) xB1⟩
    ·intro ρ w1 L hG hny hfr hd
     obtain ⟨fc, ff⟩ := xF1 hfr
     obtain ⟨d0, -⟩ := hd
     have d0 : (ρ (.tmp 19)) = .pointer (some ⟨Bq, 4, none⟩) := d0
     have e4 := zaR hG.2 e4 (hQX)
     refine zf (u := .slice (some ⟨T, 0, none⟩) u.nt u.ct) (w' := w1) (by go_simp) ⟨zD (by decide) xB1, rfl, xN1, hG.step (by decide) xB1⟩
    ·intro ρ w1 L hG hny hfr hd
     obtain ⟨fc, ff⟩ := xF1 hfr
     have f3 : ρ (.tmp 3) = .int .i64 k := hfr _ rfl
     refine zf (u := .int .i64 k) (w' := w1) (by go_simp) ⟨zD (by decide) xB1, rfl, xN1, hG.step (by decide) xB1⟩
    ·intro ρ w1 L hG hny hfr hd
     obtain ⟨fc, ff⟩ := xF1 hfr
     obtain ⟨d0, d1, -⟩ := hd
     have d0 : (ρ (.tmp 20)) = .slice (some ⟨T, 0, none⟩) u.nt u.ct := d0
     have d1 : (ρ (.tmp 21)) = .int .i64 k := d1
     refine zf (u := .pointer (some ⟨T, k, none⟩)) (w' := w1) (by go_simp) ⟨zD (by decide) xB1, rfl, xN1, hG.step (by decide) xB1⟩
    ·intro ρ w1 L hG hny hfr hd
     obtain ⟨fc, ff⟩ := xF1 hfr
     obtain ⟨d0, -⟩ := hd
     have d0 : (ρ (.tmp 22)) = .pointer (some ⟨T, k, none⟩) := d0
     have ga := zaR hG.2 ga (hTX)
     refine zf (u := .slice xa m xc) (w' := w1) (by go_simp) ⟨zD (by decide) xB1, rfl, xN1, hG.step (by decide) xB1⟩
    ·intro ρ w1 L hG hny hfr hd
     obtain ⟨fc, ff⟩ := xF1 hfr
     obtain ⟨d0, -⟩ := hd
     have d0 : (ρ (.tmp 23)) = .slice xa m xc := d0
     have hL := hny 12 _ rfl (by kernel_rfl)
     have hbe := hG.1 hL
     have ho := zj HROW.out hbe
     refine zL (by go_simp; exact ⟨⟨rfl, rfl⟩, rfl⟩) ?_
     refine (zfY 13 #[] zdQ xa m xc (p.threads.getD k []) w1 (enters_of Try.func13 (by kernel_rfl) rfl) ho hml zjf).mono ?_
     rintro e w2 ⟨m', c', rfl, ho2, hg2⟩
     have hT : zm (zi xa).toList w1 w2 := zm.of_grown hg2 (fun q hq => by simpa using hq)
     exact ⟨_, rfl, zdm hT, ⟨m', c', rfl, ho2, zh (zbz hbe) hg2⟩, xN1, hG.own hT⟩
   intro vs w2 L hG hlen hall hap hbd
   obtain ⟨xv0, vs0, rfl, hl0⟩ := zk hlen
   obtain ⟨xv1, vs1, rfl, hl1⟩ := zk hl0
   obtain ⟨xv2, vs2, rfl, hl2⟩ := zk hl1
   obtain ⟨xv3, vs3, rfl, hl3⟩ := zk hl2
   obtain ⟨xv4, vs4, rfl, hl4⟩ := zk hl3
   obtain ⟨xv5, vs5, rfl, hl5⟩ := zk hl4
   obtain ⟨xv6, vs6, rfl, hl6⟩ := zk hl5
   obtain ⟨xv7, vs7, rfl, hl7⟩ := zk hl6
   obtain ⟨xv8, vs8, rfl, hl8⟩ := zk hl7
   obtain ⟨xv9, vs9, rfl, hl9⟩ := zk hl8
   obtain ⟨xv10, vs10, rfl, hl10⟩ := zk hl9
   obtain ⟨xv11, vs11, rfl, hl11⟩ := zk hl10
   obtain ⟨xv12, vs12, rfl, hl12⟩ := zk hl11
   obtain rfl := zb0 hl12
   clear hlen hl0 hl1 hl2 hl3 hl4 hl5 hl6 hl7 hl8 hl9 hl10 hl11 hl12
   simp only [List.take_succ_cons, List.take_zero, List.drop_succ_cons, List.drop_zero] at hall ⊢
   obtain ⟨t0', t1', t2', t3', t4', t5', t6', t7', t8', t9', t10', t11', t12', -⟩ := hall
   have hv0 : xv0 = .pointer (some ⟨Bq, 0, none⟩) := t0'
   have hv1 : xv1 = .pointer (some ⟨Bq, 0, none⟩) := t1'
   have hv2 : xv2 = .pointer (some ⟨Bq, 4, none⟩) := t2'
   have hv3 : xv3 = .slice (some ⟨T, 0, none⟩) u.nt u.ct := t3'
   have hv4 : xv4 = .int .i64 k := t4'
   have hv5 : xv5 = .pointer (some ⟨Bq, 0, none⟩) := t5'
   have hv6 : xv6 = .pointer (some ⟨Bq, 0, none⟩) := t6'
   have hv7 : xv7 = .pointer (some ⟨Bq, 4, none⟩) := t7'
   have hv8 : xv8 = .slice (some ⟨T, 0, none⟩) u.nt u.ct := t8'
   have hv9 : xv9 = .int .i64 k := t9'
   have hv10 : xv10 = .pointer (some ⟨T, k, none⟩) := t10'
   have hv11 : xv11 = .slice xa m xc := t11'
   have hv12 : (∃ m' c' : Nat, xv12 = .slice xa m' c' ∧ w2.ownsRow 0 44 3 (.slice xa m' c') m' (opsV (hush (p.threads.getD k []))) ∧ wr.grownBy w2 (zi xa)) := t12'
   clear t0' t1' t2' t3' t4' t5' t6' t7' t8' t9' t10' t11' t12'
   clear hap hbd
   subst hv0 hv1 hv2 hv3 hv4 hv5 hv6 hv7 hv8 hv9 hv10 hv11
   simp only [z9, Act.put, List.setIfInBounds_toArray, List.set_cons_succ, List.set_cons_zero]
   obtain ⟨m', c', rfl, hrow2, hg⟩ := hv12
   have kQ2 : Blk w2 Bq _ _ := (hG.2.block Bq HKr.out.lt hQX).trans HKr.out
   have hot2 := ze HOT.out hg (fun q h1 h2 => hTX (by simp [zi] at h1; rw [h2]; simp [h1]))
   have hvl := HOr.out.ot.vlen
   have fa := hot2.frozenAt k
   have gT : w2.cell? ⟨T, k, none⟩ = some (.slice xa m xc) := by rw [hot2.cellAt k (by omega), ← HEXA.out]; simp [List.getD, hvl, hlt]
   have HROW2 := xH1 hrow2
   have HG2 := xH1 hg
   have HG := xH1 hG.2
   have HKQ := xH1 kQ2
   clear hG hrow2 hg kQ2 hot2 hvl
   go_wp2
   go_roundw
   case rel =>
    have hnew := HROW2.out
    have hnd : (fpV us').Nodup := by rw [HFr.out]; exact HND.out
    have hfin := zjQ HOr.out hnd HET.out hlt HEXA.out HG2.out hnew
    have e2 : (p.thr (za0 p.threads k)).thr ((p.thr (za0 p.threads k)).threads.set k (hush (p.threads.getD k []))) = p.thr (za0 p.threads (k + 1)) := by
     have h := zf4 p.threads k (by rw [HNT.out]; omega)
     show p.thr ((za0 p.threads k).set k (hush (p.threads.getD k []))) = _
     rw [h]
    rw [e2] at hfin
    have hB2 : zm ((zi xa).toList ++ [T]) wr (w2.setCell ⟨T, k, none⟩ (.slice xa m' c')) := (HG.out.mono (fun q hq => by simp at hq; simp [hq])).set (by simp)
    refine ⟨k + 1, us'.set k (.slice xa m' c'), by go_num, by omega, xH1 hfin, xH1 (by rw [zkg HEXA.out]; exact HFr.out), xH1 (HKQ.out.other ⟨T, k, none⟩ _ hQT), xH1 (HBr.out.trans (hB2.below HBr.out.size (fun q hq => ?_)))⟩
    rcases xP1 hq with hq | hq
    ·exact hXH q hq
    ·obtain rfl := xS1 hq
     exact hHT
   case measure => simp [intOf]; omega
  ·have hkn : k = u.nt := by omega
   subst hkn
   go_wp2
   go_ret
   refine ⟨rfl, HBr.out, fun p' hp' => ?_⟩
   obtain rfl : p.thr (p.threads.map hush) = p' := by simpa [zcr] using hp'
   have h := HOr.out
   rw [← HNT.out, zgV] at h
   exact ⟨u, HKr.out, h.rd⟩
theorem zhK {p : Pg} (hs : zc3 p) (h1 : 0 < p.threads.length) : ∀ p', zcr p = some p' → zc3 p' ∧ 0 < p'.threads.length := by
 intro p' h
 obtain rfl : p.thr (p.threads.map hush) = p' := by simpa [zcr] using h
 have h2 := hs.lt
 refine ⟨hs.thr (by rw [List.length_map]; exact h2) (fun i => ?_), by show 0 < (p.threads.map hush).length; rw [List.length_map]; exact h1⟩
 by_cases hi : i < p.threads.length
 ·have e : (p.threads.map hush).getD i [] = hush (p.threads.getD i []) := by simp [List.getD, hi]
  rw [e]
  exact Nat.le_trans (zjB _) (hs.inn i)
 ·have e : (p.threads.map hush).getD i [] = [] := by simp [List.getD, Nat.le_of_not_lt hi]
  rw [e]; simp
theorem zfu (v : PV) (p : Pg) (w : World) (hr : RdP w v p) (hz : zbb v p) :
  Calls Try.prog 5 #[.agg #[.slice v.s v.ns v.cs, .slice v.g v.ng v.cg, .slice v.b v.nb v.cb, .slice v.r v.nr v.cr, .slice v.t v.nt v.ct]] w fun e w' => ∃ (u : PV) (us : List Value), e = .returned (.tuple #[.agg #[.slice u.s u.ns u.cs, .slice u.g u.ng u.cg, .slice u.b u.nb u.cb, .slice u.r u.nr u.cr, .slice u.t u.nt u.ct], .bool (zaM p).isSome]) ∧ OwnP w' u us ((zaM p).getD noPg).cells ∧ (fpP u us).Nodup ∧ (∀ k ∈ fpP u us, w.heap.size ≤ k) ∧ Below w.heap.size w w' := by
 have hsd := hz.data hr
 have HSD := xH1 hsd
 have hmf : ∀ (fn : Fn) (first cap : Array Value) (w : World), (Instr.makeFunc fn first cap).run Try.prog w = .ok (.func fn first cap) w := fun _ _ _ _ => rfl
 obtain ⟨W0, hW0⟩ : ∃ W0 : World, W0 = ((w.alloc (.cells #[.slice v.s v.ns v.cs, .slice v.g v.ng v.cg, .slice v.b v.nb v.cb, .slice v.r v.nr v.cr, .slice v.t v.nt v.ct] 26)).alloc (.cells #[.slice none 0 0, .slice none 0 0, .slice none 0 0, .slice none 0 0, .slice none 0 0] 26)) := ⟨_, rfl⟩
 have b0 : Below w.heap.size w ((w.alloc (.cells #[.slice v.s v.ns v.cs, .slice v.g v.ng v.cg, .slice v.b v.nb v.cb, .slice v.r v.nr v.cr, .slice v.t v.nt v.ct] 26)).alloc (.cells #[.slice none 0 0, .slice none 0 0, .slice none 0 0, .slice none 0 0, .slice none 0 0] 26)) := ((xA1).alloc (by simp) _)
 have k0 : Blk ((w.alloc (.cells #[.slice v.s v.ns v.cs, .slice v.g v.ng v.cg, .slice v.b v.nb v.cb, .slice v.r v.nr v.cr, .slice v.t v.nt v.ct] 26)).alloc (.cells #[.slice none 0 0, .slice none 0 0, .slice none 0 0, .slice none 0 0, .slice none 0 0] 26)) w.heap.size #[.slice v.s v.ns v.cs, .slice v.g v.ng v.cg, .slice v.b v.nb v.cb, .slice v.r v.nr v.cr, .slice v.t v.nt v.ct] 26 := (Blk.new _ _ _).alloc _
 have kR : Blk ((w.alloc (.cells #[.slice v.s v.ns v.cs, .slice v.g v.ng v.cg, .slice v.b v.nb v.cb, .slice v.r v.nr v.cr, .slice v.t v.nt v.ct] 26)).alloc (.cells #[.slice none 0 0, .slice none 0 0, .slice none 0 0, .slice none 0 0, .slice none 0 0] 26)) (w.heap.size + 1) #[.slice none 0 0, .slice none 0 0, .slice none 0 0, .slice none 0 0, .slice none 0 0] 26 := by simpa using Blk.new (w.alloc (.cells #[.slice v.s v.ns v.cs, .slice v.g v.ng v.cg, .slice v.b v.nb v.cb, .slice v.r v.nr v.cr, .slice v.t v.nt v.ct] 26)) #[.slice none 0 0, .slice none 0 0, .slice none 0 0, .slice none 0 0, .slice none 0 0] 26
 have HW0 := xH1 hW0
 rw [← hW0] at b0 k0  kR
 clear hW0
 have q0 := k0.cell 0 rfl
 have q1 := k0.cell 1 rfl
 have q2 := k0.cell 2 rfl
 have q3 := k0.cell 3 rfl
 have q4 := k0.cell 4 rfl
 have hW := kR.lt
 have lt := xH1 hr.lt
 clear hsd
 go_enter Try.func5, Try.ntmps5
 go_wp2_with fail
 rw [← HW0.out]
 refine (zi3 11 #[] v p 0 (zcr p) _ (enters_of Try.func11 (by kernel_rfl) rfl) (hr.below b0) hz
  (fun hv h0 h1 H hH => zhG p H HSD.out) (fun hv h0 h1 p' hp' => zhK HSD.out (by omega) p' hp')).mono ?_
 rintro e w1 ⟨u, us, rfl, ou, hnd, hfr, hb⟩
 have kR1 := kR.below hb
 have BE := b0.trans (hb.mono b0.size)
 have HO := xH1 ou
 have HFR := xH1 hfr
 have y0 := kR1.cell 0 rfl
 have x0 := kR1.fz 0
 have y1 := kR1.cell 1 rfl
 have x1 := kR1.fz 1
 have y2 := kR1.cell 2 rfl
 have x2 := kR1.fz 2
 have y3 := kR1.cell 3 rfl
 have x3 := kR1.fz 3
 have y4 := kR1.cell 4 rfl
 have x4 := kR1.fz 4
 clear ou hfr q0 q1 q2 q3 q4  k0  kR kR1
 go_wp2
 refine bodyPost_ret (v := .tuple #[.agg #[.slice u.s u.ns u.cs, .slice u.g u.ng u.cg, .slice u.b u.nb u.cb, .slice u.r u.nr u.cr, .slice u.t u.nt u.ct], .bool (zaM p).isSome]) (by simp [results, Try.results5, go_sem, y0, y1, y2, y3, y4, zaM]) rfl ⟨u, us, rfl, ?_, hnd, fun q hq => Nat.le_trans b0.size (HFR.out q hq), ?_⟩
 ·refine HO.out.touch (S := [w.heap.size + 1]) ?_ (fun q hq hm => by have := HFR.out q hq; simp at hm; omega)
  exact zm.set (zm.set (zm.set (zm.set (zm.set (zm.refl _ _) (by simp)) (by simp)) (by simp)) (by simp)) (by simp)
 ·exact ((((BE.setCell (by simp) _).setCell (by simp) _).setCell (by simp) _).setCell (by simp) _).setCell (by simp) _
end Go.Proofs.Ytppoohbkkdgljaa
