/- The draw of PutOp's arguments. -/
import Derived.Test.YtnobkdkfhgjeeabBaseD
import Derived.Deep.RegionLaw
namespace Go.Proofs.Ytnobkdkfhgjeeab
open Go.RowKit

set_option maxRecDepth 100000 in
set_option maxHeartbeats 8000000 in
theorem drawPutOp_any (a : Option Addr) (n c : Nat) (bs : List Int) (w : World) (hC : Code13 w a n c bs) :
    Calls Try.prog 29 #[.slice a n c] w fun e w' => ∃ (v : PV) (vs : List Value) (p : Pg) (x y : Int) (o : OpD), e = .returned (.tuple #[.agg #[.slice v.s v.ns v.cs, .slice v.g v.ng v.cg, .slice v.b v.nb v.cb, .slice v.r v.nr v.cr, .slice v.t v.nt v.ct], .int .i64 x, .int .i64 y, .agg #[.int .i64 o.kind, .int .i64 o.on, .int .i64 o.arg]]) ∧ (-1 ≤ x ∧ x ≤ 4 ∧ -1 ≤ y ∧ y ≤ 3) ∧ Own w' w.heap.size v vs p 10 ∧ Below w.heap.size w w' := by
  have b0 : Below w.heap.size w ((w.alloc (.cells #[.slice none 0 0, .slice none 0 0, .slice none 0 0, .slice none 0 0, .slice none 0 0] 26)).alloc (.cells #[.int .i64 0, .int .i64 0, .int .i64 0] 44)) := ((Below.refl _ _).alloc (Nat.le_refl _) _).alloc (by simp) _
  have k0 : Blk ((w.alloc (.cells #[.slice none 0 0, .slice none 0 0, .slice none 0 0, .slice none 0 0, .slice none 0 0] 26)).alloc (.cells #[.int .i64 0, .int .i64 0, .int .i64 0] 44)) w.heap.size #[.slice none 0 0, .slice none 0 0, .slice none 0 0, .slice none 0 0, .slice none 0 0] 26 := (Blk.new _ _ _).alloc _
  have j0 : Blk ((w.alloc (.cells #[.slice none 0 0, .slice none 0 0, .slice none 0 0, .slice none 0 0, .slice none 0 0] 26)).alloc (.cells #[.int .i64 0, .int .i64 0, .int .i64 0] 44)) (w.heap.size + 1) #[.int .i64 0, .int .i64 0, .int .i64 0] 44 := by simpa using Blk.new (w.alloc (.cells #[.slice none 0 0, .slice none 0 0, .slice none 0 0, .slice none 0 0, .slice none 0 0] 26)) #[.int .i64 0, .int .i64 0, .int .i64 0] 44
  have s0 : ((w.alloc (.cells #[.slice none 0 0, .slice none 0 0, .slice none 0 0, .slice none 0 0, .slice none 0 0] 26)).alloc (.cells #[.int .i64 0, .int .i64 0, .int .i64 0] 44)).heap.size = w.heap.size + 2 := by simp
  have hC0 := hC.below b0
  go_enter Try.func29, Try.ntmps29
  go_wp2_with fail
  refine (l11Case_any a n c bs _ hC0).mono ?_
  rintro e w1 ⟨v, vs, p, x, y, rfl, hxy, o1, hb⟩
  have k1 := k0.below hb
  have j1 := j0.below hb
  have HB1 := Lib.hid (b0.trans (hb.mono b0.size))
  have s1 := hb.size
  rw [s0] at s1 o1
  have HO := Lib.hid o1
  have HXY := Lib.hid hxy
  have hC1 := hC0.below hb
  have HLT : Hid (∀ q ∈ fpP v vs, q < w1.heap.size) := Lib.hid (fun q hq => o1.own.lt q hq)
  clear b0 k0 j0 s0 hC0 hC o1 hxy hb
  have bb : Below w1.heap.size w1 (w1.alloc (.cells #[.slice v.s v.ns v.cs, .slice v.g v.ng v.cg, .slice v.b v.nb v.cb, .slice v.r v.nr v.cr, .slice v.t v.nt v.ct] 26)) := (Below.refl _ _).alloc (Nat.le_refl _) _
  have kV : Blk (w1.alloc (.cells #[.slice v.s v.ns v.cs, .slice v.g v.ng v.cg, .slice v.b v.nb v.cb, .slice v.r v.nr v.cr, .slice v.t v.nt v.ct] 26)) w1.heap.size #[.slice v.s v.ns v.cs, .slice v.g v.ng v.cg, .slice v.b v.nb v.cb, .slice v.r v.nr v.cr, .slice v.t v.nt v.ct] 26 := Blk.new _ _ _
  have sV : (w1.alloc (.cells #[.slice v.s v.ns v.cs, .slice v.g v.ng v.cg, .slice v.b v.nb v.cb, .slice v.r v.nr v.cr, .slice v.t v.nt v.ct] 26)).heap.size = w1.heap.size + 1 := by simp
  go_wp2_with fail
  refine (hC1.below bb).open.mono ?_
  rintro e w2 ⟨rfl, n', bs', r2, hb, s2⟩
  rw [sV] at r2 s2
  have bb2 := bb.trans (hb.mono bb.size)
  have k2 := k1.below bb2
  have j2 := j1.below bb2
  have kV2 := kV.below hb
  replace HO := Lib.hid (HO.out.below bb2)
  replace HB1 := Lib.hid (HB1.out.trans (bb2.mono HB1.out.size))
  have s2' : w1.heap.size + 2 ≤ w2.heap.size := by omega
  clear bb hb bb2 k1 j1 kV hC1 s2
  rw [sV]
  clear sV
  go_wp2_with fail
  refine (pick_some (w1.heap.size + 1) a n' c bs' 0 8 w2 r2 (by omega) (by omega)).mono ?_
  rintro e w3 ⟨z, rfl, hz, r3, g3, _⟩
  have s3 := g3.size
  have k3 := k2.grown g3 (by simp; omega)
  have j3 := j2.grown g3 (by simp; omega)
  have kV3 := kV2.grown g3 (by simp)
  have HGG := Lib.hid (HB1.out.trans (below_of_grown g3 (by omega) (fun i e => by cases e; omega)))
  have HO3 := Lib.hid (OwnP.drawn HO.out.own g3 (fun hm => by have := HLT.out _ hm; omega))
  clear g3 k2 j2 kV2 r2
  have HLO := Lib.hid HO.out.lo
  have HFW := Lib.hid HO.out.few
  clear HO HB1
  by_cases hz0 : z = 0
  · have t0 : ((z : Int) == 0) = true := by rw [hz0]; rfl
    clear hz0
    have u0 := kV3.cell 0 rfl
    have u1 := kV3.cell 1 rfl
    have u2 := kV3.cell 2 rfl
    have u3 := kV3.cell 3 rfl
    have u4 := kV3.cell 4 rfl
    have kA := kV3.alloc (.cells #[.int .i64 0, .int .i64 2, .int .i64 11] 3)
    have a0 := kA.cell 0 rfl
    have a1 := kA.cell 1 rfl
    have a2 := kA.cell 2 rfl
    have a3 := kA.cell 3 rfl
    have a4 := kA.cell 4 rfl
    clear kA
    have hBk : Blk ((w3.alloc (.cells #[.int .i64 0, .int .i64 2, .int .i64 11] 3)).drew) w3.heap.size #[.int .i64 0, .int .i64 2, .int .i64 11] 3 := Blk.new w3 _ _
    have hRd : Rdr ((w3.alloc (.cells #[.int .i64 0, .int .i64 2, .int .i64 11] 3)).drew) (w1.heap.size + 1) a n' c bs' (0 + 1) := r3.below ((Below.refl _ _).alloc (Nat.le_refl _) _).drew
    have hcs : Hid (#[.int .i64 0, .int .i64 2, .int .i64 11] = (ints [0, 2, 11]).toArray) := Lib.hid rfl
    have hln : Hid (([0, 2, 11] : List Int).length = 3) := Lib.hid rfl
    have hp1 : (0 : Int) + 1 ≤ 1099511627776 := by omega
    have hwR : w3.heap.size ≠ w1.heap.size + 1 := by omega
    go_wp2_with fail
    go_region_law (go_simp; go_at_call 70; (with_reducible refine (num_blk (w1.heap.size + 1) a n' c bs' (0 + 1) 3 [0, 2, 11] _ hRd hp1 hln.out (by decide) (by decide) _ _ hBk hcs.out hwR).mono ?_); rintro e w4 ⟨K, rfl, hK, r4, g4⟩; have G4 := grown_trans (grown_of_below ((Below.refl w3.heap.size w3).alloc (Nat.le_refl _) (.cells #[.int .i64 0, .int .i64 2, .int .i64 11] 3)).drew (some (w1.heap.size + 1))) g4; have HB4 := Lib.hid (HGG.out.trans (below_of_grown G4 HGG.out.size (fun i e => by cases e; omega))); have HO4 := Lib.hid (OwnP.drawn HO3.out G4 (fun hm => by have := HLT.out _ hm; omega)); have kV4 := kV3.grown G4 (by simp); have k4 := k3.grown G4 (by simp; omega); have j4 := j3.grown G4 (by simp; omega); have v0 := kV4.cell 0 rfl; have v1 := kV4.cell 1 rfl; have v2 := kV4.cell 2 rfl; have v3 := kV4.cell 3 rfl; have v4 := kV4.cell 4 rfl; have y0 := k4.cell 0 rfl; have y1 := k4.cell 1 rfl; have y2 := k4.cell 2 rfl; have y3 := k4.cell 3 rfl; have y4 := k4.cell 4 rfl; have x0 := k4.fz 0; have x1 := k4.fz 1; have x2 := k4.fz 2; have x3 := k4.fz 3; have x4 := k4.fz 4; have q0 := j4.cell 0 rfl; have q1 := j4.cell 1 rfl; have q2 := j4.cell 2 rfl; have p0 := j4.fz 0; have p1 := j4.fz 1; have p2 := j4.fz 2; clear kV4 k4 j4 G4)
    all_goals
      have gs1 : w4.grownBy (((((w4.setCell ⟨w.heap.size, 0, none⟩ (.slice v.s v.ns v.cs)).setCell ⟨w.heap.size, 1, none⟩ (.slice v.g v.ng v.cg)).setCell ⟨w.heap.size, 2, none⟩ (.slice v.b v.nb v.cb)).setCell ⟨w.heap.size, 3, none⟩ (.slice v.r v.nr v.cr)).setCell ⟨w.heap.size, 4, none⟩ (.slice v.t v.nt v.ct)) (some w.heap.size) := grown_trans (grown_trans (grown_trans (grown_trans (grown_set _ _ _ _) (grown_set _ _ _ _)) (grown_set _ _ _ _)) (grown_set _ _ _ _)) (grown_set _ _ _ _)
      have gs2 : (((((w4.setCell ⟨w.heap.size, 0, none⟩ (.slice v.s v.ns v.cs)).setCell ⟨w.heap.size, 1, none⟩ (.slice v.g v.ng v.cg)).setCell ⟨w.heap.size, 2, none⟩ (.slice v.b v.nb v.cb)).setCell ⟨w.heap.size, 3, none⟩ (.slice v.r v.nr v.cr)).setCell ⟨w.heap.size, 4, none⟩ (.slice v.t v.nt v.ct)).grownBy ((((((((w4.setCell ⟨w.heap.size, 0, none⟩ (.slice v.s v.ns v.cs)).setCell ⟨w.heap.size, 1, none⟩ (.slice v.g v.ng v.cg)).setCell ⟨w.heap.size, 2, none⟩ (.slice v.b v.nb v.cb)).setCell ⟨w.heap.size, 3, none⟩ (.slice v.r v.nr v.cr)).setCell ⟨w.heap.size, 4, none⟩ (.slice v.t v.nt v.ct)).setCell ⟨w.heap.size + 1, 0, none⟩ (.int .i64 K)).setCell ⟨w.heap.size + 1, 1, none⟩ (.int .i64 3)).setCell ⟨w.heap.size + 1, 2, none⟩ (.int .i64 0)) (some (w.heap.size + 1)) := grown_trans (grown_trans (grown_set _ _ _ _) (grown_set _ _ _ _)) (grown_set _ _ _ _)
      have HOF := Lib.hid (OwnP.drawn (OwnP.drawn HO4.out gs1 (fun hm => by have := HLO.out _ hm; omega)) gs2 (fun hm => by have := HLO.out _ hm; omega))
      have HBF := Lib.hid ((HB4.out.trans (below_of_grown gs1 HB4.out.size (fun i e => by cases e; omega))).trans (below_of_grown gs2 (HB4.out.trans (below_of_grown gs1 HB4.out.size (fun i e => by cases e; omega))).size (fun i e => by cases e; omega)))
      clear gs1 gs2
      go_wp2
      refine bodyPost_ret (v := .tuple #[.agg #[.slice v.s v.ns v.cs, .slice v.g v.ng v.cg, .slice v.b v.nb v.cb, .slice v.r v.nr v.cr, .slice v.t v.nt v.ct], .int .i64 x, .int .i64 y, .agg #[.int .i64 K, .int .i64 3, .int .i64 0]]) (by simp [results, Try.results29, go_sem, y0, y1, y2, y3, y4, q0, q1, q2]) rfl ⟨v, vs, p, x, y, ⟨K, 3, 0⟩, rfl, HXY.out, ⟨HOF.out, fun q hq => by have := HLO.out q hq; omega, HFW.out⟩, HBF.out⟩
  · have t0 : ((z : Int) == 0) = false := by simp; omega
    clear hz0
    have u0 := kV3.cell 0 rfl
    have u1 := kV3.cell 1 rfl
    have u2 := kV3.cell 2 rfl
    have u3 := kV3.cell 3 rfl
    have u4 := kV3.cell 4 rfl
    have hRd : Rdr w3.drew (w1.heap.size + 1) a n' c bs' (0 + 1) := r3.below (Below.refl _ _).drew
    have hp1 : (0 : Int) + 1 ≤ 1099511627776 := by omega
    go_wp2_with fail
    go_region_law (go_simp; go_at_call 69; (with_reducible refine (pick_some (w1.heap.size + 1) a n' c bs' (0 + 1) 9 _ hRd hp1 (by decide)).mono ?_); rintro e w4 ⟨K, rfl, hK, r4, g4, _⟩; have G4 := grown_trans (grown_drew w3 (some (w1.heap.size + 1))) g4; have HB4 := Lib.hid (HGG.out.trans (below_of_grown G4 HGG.out.size (fun i e => by cases e; omega))); have HO4 := Lib.hid (OwnP.drawn HO3.out G4 (fun hm => by have := HLT.out _ hm; omega)); have kV4 := kV3.grown G4 (by simp); have k4 := k3.grown G4 (by simp; omega); have j4 := j3.grown G4 (by simp; omega); have v0 := kV4.cell 0 rfl; have v1 := kV4.cell 1 rfl; have v2 := kV4.cell 2 rfl; have v3 := kV4.cell 3 rfl; have v4 := kV4.cell 4 rfl; have y0 := k4.cell 0 rfl; have y1 := k4.cell 1 rfl; have y2 := k4.cell 2 rfl; have y3 := k4.cell 3 rfl; have y4 := k4.cell 4 rfl; have x0 := k4.fz 0; have x1 := k4.fz 1; have x2 := k4.fz 2; have x3 := k4.fz 3; have x4 := k4.fz 4; have q0 := j4.cell 0 rfl; have q1 := j4.cell 1 rfl; have q2 := j4.cell 2 rfl; have p0 := j4.fz 0; have p1 := j4.fz 1; have p2 := j4.fz 2; clear kV4 k4 j4 G4)
    all_goals
      have gs1 : w4.grownBy (((((w4.setCell ⟨w.heap.size, 0, none⟩ (.slice v.s v.ns v.cs)).setCell ⟨w.heap.size, 1, none⟩ (.slice v.g v.ng v.cg)).setCell ⟨w.heap.size, 2, none⟩ (.slice v.b v.nb v.cb)).setCell ⟨w.heap.size, 3, none⟩ (.slice v.r v.nr v.cr)).setCell ⟨w.heap.size, 4, none⟩ (.slice v.t v.nt v.ct)) (some w.heap.size) := grown_trans (grown_trans (grown_trans (grown_trans (grown_set _ _ _ _) (grown_set _ _ _ _)) (grown_set _ _ _ _)) (grown_set _ _ _ _)) (grown_set _ _ _ _)
      have gs2 : (((((w4.setCell ⟨w.heap.size, 0, none⟩ (.slice v.s v.ns v.cs)).setCell ⟨w.heap.size, 1, none⟩ (.slice v.g v.ng v.cg)).setCell ⟨w.heap.size, 2, none⟩ (.slice v.b v.nb v.cb)).setCell ⟨w.heap.size, 3, none⟩ (.slice v.r v.nr v.cr)).setCell ⟨w.heap.size, 4, none⟩ (.slice v.t v.nt v.ct)).grownBy ((((((((w4.setCell ⟨w.heap.size, 0, none⟩ (.slice v.s v.ns v.cs)).setCell ⟨w.heap.size, 1, none⟩ (.slice v.g v.ng v.cg)).setCell ⟨w.heap.size, 2, none⟩ (.slice v.b v.nb v.cb)).setCell ⟨w.heap.size, 3, none⟩ (.slice v.r v.nr v.cr)).setCell ⟨w.heap.size, 4, none⟩ (.slice v.t v.nt v.ct)).setCell ⟨w.heap.size + 1, 0, none⟩ (.int .i64 1)).setCell ⟨w.heap.size + 1, 1, none⟩ (.int .i64 0)).setCell ⟨w.heap.size + 1, 2, none⟩ (.int .i64 (K : Int))) (some (w.heap.size + 1)) := grown_trans (grown_trans (grown_set _ _ _ _) (grown_set _ _ _ _)) (grown_set _ _ _ _)
      have HOF := Lib.hid (OwnP.drawn (OwnP.drawn HO4.out gs1 (fun hm => by have := HLO.out _ hm; omega)) gs2 (fun hm => by have := HLO.out _ hm; omega))
      have HBF := Lib.hid ((HB4.out.trans (below_of_grown gs1 HB4.out.size (fun i e => by cases e; omega))).trans (below_of_grown gs2 (HB4.out.trans (below_of_grown gs1 HB4.out.size (fun i e => by cases e; omega))).size (fun i e => by cases e; omega)))
      clear gs1 gs2
      go_wp2
      refine bodyPost_ret (v := .tuple #[.agg #[.slice v.s v.ns v.cs, .slice v.g v.ng v.cg, .slice v.b v.nb v.cb, .slice v.r v.nr v.cr, .slice v.t v.nt v.ct], .int .i64 x, .int .i64 y, .agg #[.int .i64 1, .int .i64 0, .int .i64 (K : Int)]]) (by simp [results, Try.results29, go_sem, y0, y1, y2, y3, y4, q0, q1, q2]) rfl ⟨v, vs, p, x, y, ⟨1, 0, (K : Int)⟩, rfl, HXY.out, ⟨HOF.out, fun q hq => by have := HLO.out q hq; omega, HFW.out⟩, HBF.out⟩

end Go.Proofs.Ytnobkdkfhgjeeab
