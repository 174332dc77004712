/- Part of a proof: MChnS2. -/
import Derived.Test.YtfpgijihiifogaaQMChnS
set_option maxRecDepth 100000
set_option maxHeartbeats 16000000
namespace Go.Proofs.Ytfpgijihiifogaa
open Go.RowKit
theorem specWaits5_no (x : ChnD) (ai al ag : Option Addr) (ni ci nl cl ng cg : Nat) (t : Int) (w : World) (h2 : x.senders.length = nl) (h3 : x.getters.length = ng) (r2 : Rd w al (pairs x.senders)) (r3 : Rd w ag (ints x.getters)) (ok : chnOk x) (hs : t ∉ x.senders.map (·.1)) (hg : t ∉ x.getters) :
  Calls Try.prog 85 #[.agg #[.int .i64 x.room, .slice ai ni ci, .slice al nl cl, .slice ag ng cg, .bool x.closed], .int .i64 t] w fun e w' => e = .returned (.bool false) ∧ Below w.heap.size w w' := by
 have h6 := ok.2.2.2.2.1.1
 rw [List.length_append, List.length_map, h2, h3] at h6
 have hfs := findI_not hs
 have hfg := findI_not hg
 have L2 := xH1 h2
 have L3 := xH1 h3
 have HFS := xH1 hfs
 have HFG := xH1 hfg
 clear h2 h3 ok hs hg hfs hfg
 obtain ⟨W0, hW0⟩ : ∃ W0 : World, W0 = (w.alloc (.cells #[.int .i64 x.room, .slice ai ni ci, .slice al nl cl, .slice ag ng cg, .bool x.closed] 92)) := ⟨_, rfl⟩
 have B0 : Below w.heap.size w W0 := by
  rw [hW0]
  exact (xB1.alloc (by simp) _)
 have kS : Blk W0 (w.heap.size) #[.int .i64 x.room, .slice ai ni ci, .slice al nl cl, .slice ag ng cg, .bool x.closed] 92 := by
  rw [hW0]
  have h := Blk.new w #[.int .i64 x.room, .slice ai ni ci, .slice al nl cl, .slice ag ng cg, .bool x.closed] 92
  exact h
 have hS0 : W0.heap.size = w.heap.size + 1 := by rw [hW0]; simp
 have Hr2 := xH1 (r2.below B0)
 have Hr3 := xH1 (r3.below B0)
 have HB := xH1 B0
 clear B0 r2 r3
 have q0 := kS.cell 0 rfl
 have q1 := kS.cell 1 rfl
 have q2 := kS.cell 2 rfl
 have q3 := kS.cell 3 rfl
 have q4 := kS.cell 4 rfl
 go_enter Try.func85, Try.ntmps85
 go_wp2_with fail
 rw [← hW0]
 clear hW0
 refine (specThreads5_any x.senders al nl cl _ L2.out (by omega) Hr2.out).mono ?_
 rintro e u1 ⟨a4, c4, rfl, ho, hb⟩
 replace q0 := keepc hb q0
 replace q1 := keepc hb q1
 replace q2 := keepc hb q2
 replace q3 := keepc hb q3
 replace q4 := keepc hb q4
 replace kS := kS.below hb
 replace Hr2 := xH1 (Hr2.out.below hb)
 replace Hr3 := xH1 (Hr3.out.below hb)
 replace HB := xH1 (HB.out.trans (hb.mono HB.out.size))
 clear hb
 have HO := xH1 (Rd.of_owns ho)
 clear ho
 go_wp2_with fail
 refine (specAt_any a4 nl c4 (x.senders.map (·.1)) t _ (by rw [List.length_map, L2.out]) (by unfold maxLen; omega) HO.out).mono ?_
 rintro e wsame ⟨rfl, hwsame⟩
 have hwsame' := hwsame.symm
 subst hwsame'
 rw [HFS.out]
 go_wp2_with fail
 refine (specAt_any ag ng cg x.getters t _ L3.out (by unfold maxLen; omega) Hr3.out).mono ?_
 rintro e wsame ⟨rfl, hwsame⟩
 have hwsame' := hwsame.symm
 subst hwsame'
 rw [HFG.out]
 go_wp2
 go_ret
 exact ⟨rfl, HB.out⟩
theorem specChanValid_ok (x : ChnD) (ai al ag : Option Addr) (ni ci nl cl ng cg : Nat) (w : World) (h1 : x.items.length = ni) (h2 : x.senders.length = nl) (h3 : x.getters.length = ng) (k3 : ng ≤ cg) (r1 : Rd w ai (ints x.items)) (r2 : Rd w al (pairs x.senders)) (r3 : Rd w ag (ints x.getters)) (ok : chnOk x) :
  Calls Try.prog 80 #[.agg #[.int .i64 x.room, .slice ai ni ci, .slice al nl cl, .slice ag ng cg, .bool x.closed]] w fun e w' => e = .returned (.bool true) ∧ Below w.heap.size w w' := by
 obtain ⟨⟨m1, m2⟩, mi, hv, hs, ht, hse, hge⟩ := ok
 have h6 := ht.1
 rw [List.length_append, List.length_map, h2, h3] at h6
 rw [h1] at mi
 have d1 : decide (x.room < 0) = false := decide_eq_false (by omega)
 have d2 : decide (4 < x.room) = false := decide_eq_false (by omega)
 have d3 : decide (x.room < (ni : Int)) = false := decide_eq_false (by omega)
 have d4 : decide (6 < (nl : Int)) = false := decide_eq_false (by omega)
 have d5 : decide (6 < (ng : Int)) = false := decide_eq_false (by omega)
 have n1 : ni ≤ 4 := by omega
 have n2 : nl ≤ 6 := by omega
 have n3 : ng ≤ 6 := by omega
 have L1 := xH1 h1
 have L2 := xH1 h2
 have L3 := xH1 h3
 have HV := xH1 hv
 have HS := xH1 hs
 have HT := xH1 ht
 have HSE := xH1 hse
 have HGE := xH1 hge
 have K3 := xH1 k3
 clear h1 h2 h3 hv hs ht hse hge k3 h6 m1 m2 mi
 have B0 : Below w.heap.size w (w.alloc (.cells #[.int .i64 x.room, .slice ai ni ci, .slice al nl cl, .slice ag ng cg, .bool x.closed] 92)) := xA1
 have k0 : Blk (w.alloc (.cells #[.int .i64 x.room, .slice ai ni ci, .slice al nl cl, .slice ag ng cg, .bool x.closed] 92)) w.heap.size #[.int .i64 x.room, .slice ai ni ci, .slice al nl cl, .slice ag ng cg, .bool x.closed] 92 := Blk.new _ _ _
 have q0 : (w.alloc (.cells #[.int .i64 x.room, .slice ai ni ci, .slice al nl cl, .slice ag ng cg, .bool x.closed] 92)).cell? ⟨w.heap.size, 0, none⟩ = some (.int .i64 x.room) := k0.cell 0 rfl
 have q1 : (w.alloc (.cells #[.int .i64 x.room, .slice ai ni ci, .slice al nl cl, .slice ag ng cg, .bool x.closed] 92)).cell? ⟨w.heap.size, 1, none⟩ = some (.slice ai ni ci) := k0.cell 1 rfl
 have q2 : (w.alloc (.cells #[.int .i64 x.room, .slice ai ni ci, .slice al nl cl, .slice ag ng cg, .bool x.closed] 92)).cell? ⟨w.heap.size, 2, none⟩ = some (.slice al nl cl) := k0.cell 2 rfl
 have q3 : (w.alloc (.cells #[.int .i64 x.room, .slice ai ni ci, .slice al nl cl, .slice ag ng cg, .bool x.closed] 92)).cell? ⟨w.heap.size, 3, none⟩ = some (.slice ag ng cg) := k0.cell 3 rfl
 have q4 : (w.alloc (.cells #[.int .i64 x.room, .slice ai ni ci, .slice al nl cl, .slice ag ng cg, .bool x.closed] 92)).cell? ⟨w.heap.size, 4, none⟩ = some (.bool x.closed) := k0.cell 4 rfl
 clear k0
 have R1 := xH1 (r1.below B0)
 have R2 := xH1 (r2.below B0)
 have R3 := xH1 (r3.below B0)
 clear r1 r2 r3
 go_enter Try.func80, Try.ntmps80
 go_wp2
 obtain ⟨W0, hW0⟩ : ∃ W0 : World, W0 = (w.alloc (.cells #[.int .i64 x.room, .slice ai ni ci, .slice al nl cl, .slice ag ng cg, .bool x.closed] 92)) := ⟨_, rfl⟩
 rw [← hW0] at B0 R1 R2 R3 q0 q1 q2 q3 q4 ⊢
 clear hW0
 go_loopw [3] (fun v wr => ∃ i : Nat, i ≤ ni ∧ v = .int .i64 i ∧ Below W0.heap.size W0 wr) (fun v _ => ni - (intOf v).toNat)
 case atStart => exact ⟨0, by omega, rfl, Below.refl _ _⟩
 case round =>
  obtain ⟨i, hi, rfl, hb⟩ := hrel
  have c1 := keepc hb q1
  have c2 := keepc hb q2
  by_cases hlt : i < ni
  ·obtain ⟨b, o, rfl, g'⟩ := (R1.out.below hb).int (by have := L1.out; omega)
   have g := g' i (by have := L1.out; omega)
   obtain ⟨t, et⟩ : ∃ t, t = x.items.getD i 0 := ⟨_, rfl⟩
   rw [← et] at g
   have htt : 0 ≤ t ∧ t ≤ 99 := by rw [et]; exact HV.out _ (getD_memp (by have := L1.out; omega))
   have HTT := xH1 htt
   have i1 : (i : Int) < (ni : Int) := by omega
   clear g' et htt
   go_wp2_with fail
   refine (specValue_ok t _ HTT.out).mono ?_
   rintro e w3 ⟨rfl, hw3⟩
   have hw3' := hw3.symm
   subst hw3'
   go_wp2
   go_roundw
   case rel => exact ⟨i + 1, by omega, by go_num, hb⟩
   case measure => simp [intOf]; omega
  ·have hkm : ni = i := by omega
   subst hkm
   go_wp2
   go_loopw [4] (fun v wk => ∃ j : Nat, j ≤ nl ∧ v = .int .i64 j ∧ Below W0.heap.size W0 wk) (fun v _ => nl - (intOf v).toNat)
   case atStart => exact ⟨0, by omega, rfl, hb⟩
   case round =>
    obtain ⟨j, hj, rfl, hbj⟩ := hrel
    have f0 := keepc hbj q0
    have f1 := keepc hbj q1
    have f2 := keepc hbj q2
    have f3 := keepc hbj q3
    have f4 := keepc hbj q4
    by_cases hjl : j < nl
    ·obtain ⟨b, o, rfl, g'⟩ := (R2.out.below hbj).pair (by have := L2.out; omega)
     obtain ⟨-, g⟩ := g' j (by have := L2.out; omega)
     obtain ⟨t, et⟩ : ∃ t, t = (x.senders.getD j (0, 0)).2 := ⟨_, rfl⟩
     rw [← et] at g
     have htt : 0 ≤ t ∧ t ≤ 99 := by rw [et]; exact HS.out _ (getD_memp (by have := L2.out; omega))
     have HTT := xH1 htt
     have i1 : (j : Int) < (nl : Int) := by omega
     clear g' et htt
     go_wp2_with fail
     refine (specValue_ok t _ HTT.out).mono ?_
     rintro e w3 ⟨rfl, hw3⟩
     have hw3' := hw3.symm
     subst hw3'
     go_wp2
     go_roundw
     case rel => exact ⟨j + 1, by omega, by go_num, hbj⟩
     case measure => simp [intOf]; omega
    ·have hkj : nl = j := by omega
     subst hkj
     go_wp2
     obtain ⟨WK, hWK⟩ : ∃ WK : World, WK = wr := ⟨_, rfl⟩
     rw [← hWK] at hbj f0 f1 f2 f3 f4 ⊢
     have HBJ := xH1 (B0.trans (hbj.mono B0.size))
     have R2K := xH1 (R2.out.below hbj)
     have R3K := xH1 (R3.out.below hbj)
     have HLG : Hid ((ints x.getters).length = ng * 1) := xH1 (by rw [List.length_map, L3.out, Nat.mul_one])
     clear hWK hbj
     refine wp_region_steps 8 (by kernel_rfl) (by kernel_rfl) [fun dz uz wz => uz = .pointer (some ⟨w.heap.size, 2, none⟩), fun dz uz wz => uz = .slice al nl cl, fun dz uz wz => ∃ (az : Option Addr) (cz : Nat), uz = .slice az nl cz ∧ wz.ownsRow WK.heap.size 3 1 (.slice az nl cz) nl (ints (x.senders.map (·.1))) ∧ True, fun dz uz wz => uz = .pointer (some ⟨w.heap.size, 3, none⟩), fun dz uz wz => uz = .slice ag ng cg, fun dz uz wz => ∃ (az : Option Addr) (cz : Nat), uz = .slice az (nl + ng) cz ∧ wz.ownsRow WK.heap.size 3 1 (.slice az (nl + ng) cz) (nl + ng) (ints (x.senders.map (·.1)) ++ ints x.getters), fun dz uz wz => uz = .bool true, fun dz uz wz => uz = .bool false] (St1 5 (fun wa wb => Below WK.heap.size wa wb ∧ KeepsRows 3 1 nl wa wb)) (fun _ _ => none) (fun _ w' => Below WK.heap.size WK w') (fun _ _ => xB1.drew) (st1_size (fun _ _ h => h.1.size)) (stab1_of ⟨fun _ _ _ _ _ h => h, fun _ _ _ _ _ h => h, fun _ _ _ _ hb ⟨a, c, e, h, h0⟩ => ⟨a, c, e, owns_below h hb, h0⟩, fun _ _ _ _ _ h => h, fun _ _ _ _ _ h => h, fun _ _ _ _ hb ⟨a, c, e, h⟩ => ⟨a, c, e, owns_below h hb⟩, fun _ _ _ _ _ h => h, fun _ _ _ _ _ h => h, trivial⟩ ⟨.inr (fun _ _ _ _ _ h => h), .inr (fun _ _ _ _ _ h => h), .inr (fun _ _ _ _ hT ⟨a, c, e, h, h0⟩ => ⟨a, c, e, hT.2 _ _ _ _ _ (by omega) h, h0⟩), .inr (fun _ _ _ _ _ h => h), .inr (fun _ _ _ _ _ h => h), .inl rfl, .inr (fun _ _ _ _ _ h => h), .inr (fun _ _ _ _ _ h => h), trivial⟩) ?_ ?_
     ·simp only [List.take_succ_cons, List.take_zero]
      refine ⟨?_, ?_, ?_, ?_, ?_, ?_, ?_, ?_, trivial⟩
      ·intro ρ w1 L hG hny hfr hd
       obtain ⟨fc, ff⟩ := xF1 hfr
       have f1 : ρ (.tmp 1) = .pointer (some ⟨w.heap.size, 0, none⟩) := hfr _ rfl
       refine gives_val (u := .pointer (some ⟨w.heap.size, 2, none⟩)) (w' := w1) (by go_simp) ⟨st1_below (by decide) xB1, rfl, xN1, hG⟩
      ·intro ρ w1 L hG hny hfr hd
       obtain ⟨fc, ff⟩ := xF1 hfr
       obtain ⟨d0, -⟩ := hd
       have d0 : (ρ (.tmp 62)) = .pointer (some ⟨w.heap.size, 2, none⟩) := d0
       have f2 := keepc hG f2
       refine gives_val (u := .slice al nl cl) (w' := w1) (by go_simp) ⟨st1_below (by decide) xB1, rfl, xN1, hG⟩
      ·intro ρ w1 L hG hny hfr hd
       obtain ⟨fc, ff⟩ := xF1 hfr
       obtain ⟨d0, -⟩ := hd
       have d0 : (ρ (.tmp 63)) = .slice al nl cl := d0
       refine gives_call (by go_simp; exact ⟨⟨rfl, rfl⟩, rfl⟩) ?_
       refine (specThreads5_any x.senders al nl cl _ L2.out (by omega) (R2K.out.below hG)).mono ?_
       rintro e w2 ⟨a', c', rfl, ho, hb⟩
       exact ⟨_, rfl, st1_below (by decide) (hb), ⟨a', c', rfl, owns_mono ho hG.size, trivial⟩, xN1, hG.trans (hb.mono hG.size)⟩
      ·intro ρ w1 L hG hny hfr hd
       obtain ⟨fc, ff⟩ := xF1 hfr
       have f1 : ρ (.tmp 1) = .pointer (some ⟨w.heap.size, 0, none⟩) := hfr _ rfl
       refine gives_val (u := .pointer (some ⟨w.heap.size, 3, none⟩)) (w' := w1) (by go_simp) ⟨st1_below (by decide) xB1, rfl, xN1, hG⟩
      ·intro ρ w1 L hG hny hfr hd
       obtain ⟨fc, ff⟩ := xF1 hfr
       obtain ⟨d0, -⟩ := hd
       have d0 : (ρ (.tmp 65)) = .pointer (some ⟨w.heap.size, 3, none⟩) := d0
       have f3 := keepc hG f3
       refine gives_val (u := .slice ag ng cg) (w' := w1) (by go_simp) ⟨st1_below (by decide) xB1, rfl, xN1, hG⟩
      ·intro ρ w1 L hG hny hfr hd
       obtain ⟨fc, ff⟩ := xF1 hfr
       obtain ⟨d0, d1, -⟩ := hd
       have d0 : ∃ (az : Option Addr) (cz : Nat), (ρ (.tmp 64)) = .slice az nl cz ∧ w1.ownsRow WK.heap.size 3 1 (.slice az nl cz) nl (ints (x.senders.map (·.1))) ∧ True := d0
       have d1 : (ρ (.tmp 66)) = .slice ag ng cg := d1
       obtain ⟨azo, czo, d0, hown, -⟩ := d0
       refine gives_append_keep _ _ 23 rfl Try.underlying23 info_int rfl (by decide) d0 hown d1 HLG.out (R3K.out.below hG) (ints_one _) (by omega) (by decide) hG.size ?_
       intro a' c' w2 hown2 hgr hkeep
       have hbB := below_of_grown hgr hG.size (fun q hq => (owns_row hown q hq).1)
       exact ⟨st1_own ⟨hbB, hkeep⟩, ⟨a', c', rfl, hown2⟩, xN1, hG.trans hbB⟩
      ·intro ρ w1 L hG hny hfr hd
       obtain ⟨fc, ff⟩ := xF1 hfr
       obtain ⟨d0, -⟩ := hd
       have d0 : ∃ (az : Option Addr) (cz : Nat), (ρ (.tmp 67)) = .slice az (nl + ng) cz ∧ w1.ownsRow WK.heap.size 3 1 (.slice az (nl + ng) cz) (nl + ng) (ints (x.senders.map (·.1)) ++ ints x.getters) := d0
       obtain ⟨a', c', d0, ho⟩ := d0
       rw [show ints (x.senders.map (·.1)) ++ ints x.getters = ints (x.senders.map (·.1) ++ x.getters) from by simp [ints]] at ho
       refine gives_call (by go_simp; exact ⟨⟨rfl, rfl⟩, rfl⟩) ?_
       refine (specWaits_ok a' (nl + ng) c' (x.senders.map (·.1) ++ x.getters) _ (by rw [List.length_append, List.length_map, L2.out, L3.out]) (owns_cap ho).1 (Rd.of_owns ho) HT.out).mono ?_
       rintro e w2 ⟨rfl, hb⟩
       exact ⟨_, rfl, st1_below (by decide) (hb), rfl, xN1, hG.trans (hb.mono hG.size)⟩
      ·intro ρ w1 L hG hny hfr hd
       obtain ⟨fc, ff⟩ := xF1 hfr
       obtain ⟨d0, -⟩ := hd
       have d0 : (ρ (.tmp 68)) = .bool true := d0
       refine gives_val (u := .bool false) (w' := w1) (by go_simp) ⟨st1_below (by decide) xB1, rfl, xN1, hG⟩
     intro vs w2 L hG hlen hall hap hbd
     obtain ⟨xv0, vs0, rfl, hl0⟩ := len_cons hlen
     obtain ⟨xv1, vs1, rfl, hl1⟩ := len_cons hl0
     obtain ⟨xv2, vs2, rfl, hl2⟩ := len_cons hl1
     obtain ⟨xv3, vs3, rfl, hl3⟩ := len_cons hl2
     obtain ⟨xv4, vs4, rfl, hl4⟩ := len_cons hl3
     obtain ⟨xv5, vs5, rfl, hl5⟩ := len_cons hl4
     obtain ⟨xv6, vs6, rfl, hl6⟩ := len_cons hl5
     obtain ⟨xv7, vs7, rfl, hl7⟩ := len_cons hl6
     obtain rfl := len_nil hl7
     clear hlen hl0 hl1 hl2 hl3 hl4 hl5 hl6 hl7
     simp only [List.take_succ_cons, List.take_zero, List.drop_succ_cons, List.drop_zero] at hall ⊢
     obtain ⟨t0', t1', t2', t3', t4', t5', t6', t7', -⟩ := hall
     have hv0 : xv0 = .pointer (some ⟨w.heap.size, 2, none⟩) := t0'
     have hv1 : xv1 = .slice al nl cl := t1'
     have hv2 : ∃ (az : Option Addr) (cz : Nat), xv2 = .slice az nl cz ∧ w2.ownsRow WK.heap.size 3 1 (.slice az nl cz) nl (ints (x.senders.map (·.1))) ∧ True := t2'
     have hv3 : xv3 = .pointer (some ⟨w.heap.size, 3, none⟩) := t3'
     have hv4 : xv4 = .slice ag ng cg := t4'
     have hv5 : ∃ (az : Option Addr) (cz : Nat), xv5 = .slice az (nl + ng) cz ∧ w2.ownsRow WK.heap.size 3 1 (.slice az (nl + ng) cz) (nl + ng) (ints (x.senders.map (·.1)) ++ ints x.getters) := t5'
     have hv6 : xv6 = .bool true := t6'
     have hv7 : xv7 = .bool false := t7'
     clear t0' t1' t2' t3' t4' t5' t6' t7'
     clear hap hbd
     subst hv0 hv1 hv3 hv4 hv6 hv7
     simp only [putAll, Act.put, List.setIfInBounds_toArray, List.set_cons_succ, List.set_cons_zero]
     have e0 := keepc hG f0
     have e1 := keepc hG f1
     have e2 := keepc hG f2
     have e3 := keepc hG f3
     have e4 := keepc hG f4
     clear f0 f1 f2 f3 f4
     have HBZ := xH1 (HBJ.out.trans (hG.mono HBJ.out.size))
     clear hG
     have hse := HSE.out
     have hge := HGE.out
     rw [L1.out] at hse
     by_cases hn : nl = 0
     ·by_cases hm : ng = 0
      ·subst hn hm
       clear hse hge
       go_wp2
       all_goals (go_ret; exact ⟨rfl, HBZ.out⟩)
      ·obtain ⟨hi0, hcl⟩ := hge (fun h => hm (by rw [← L3.out, h]; rfl))
       have hni : ni = 0 := by rw [← L1.out, hi0]; rfl
       have g1 : decide ((0 : Int) < (ng : Int)) = true := decide_eq_true (by omega)
       have g2 : ((ng : Int) == 0) = false := by simp; omega
       subst hn hni
       clear hse hge hm hi0
       go_wp2
       all_goals (go_ret; exact ⟨rfl, HBZ.out⟩)
     ·obtain ⟨hrm, hg0, hcl⟩ := hse (fun h => hn (by rw [← L2.out, h]; rfl))
      have hng : ng = 0 := by rw [← L3.out, hg0]; rfl
      have g1 : decide ((0 : Int) < (nl : Int)) = true := decide_eq_true (by omega)
      have g2 : decide ((ni : Int) < x.room) = false := decide_eq_false (by omega)
      subst hng
      clear hse hge hn hrm hg0
      go_wp2
      all_goals (go_ret; exact ⟨rfl, HBZ.out⟩)
end Go.Proofs.Ytfpgijihiifogaa
