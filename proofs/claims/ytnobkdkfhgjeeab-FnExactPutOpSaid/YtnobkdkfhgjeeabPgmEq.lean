/- The statements' own equality on programs, where both sides are one. -/
import Derived.Test.YtnobkdkfhgjeeabPgmTo
namespace Go.Proofs.Ytnobkdkfhgjeeab
open Go.RowKit

set_option maxHeartbeats 400000 in
theorem eqOp_yes (x : OpD) (w : World) :
    Calls Try.prog 110 #[.agg #[.int .i64 x.kind, .int .i64 x.on, .int .i64 x.arg], .agg #[.int .i64 x.kind, .int .i64 x.on, .int .i64 x.arg]] w fun e w' => e = .returned (.bool true) ∧ Below w.heap.size w w' := by
  go_enter Try.func110, Try.ntmps110
  go_wp2
  go_ret
  exact ⟨rfl, ((Below.refl _ _).alloc (Nat.le_refl _) _).alloc (by simp) _⟩

set_option maxRecDepth 100000 in
set_option maxHeartbeats 400000 in
theorem eqOpS_yes (a1 a2 : Option Addr) (n c1 c2 : Nat) (xs : List OpD) (w : World) (hn : n ≤ 1099511627776) (hl : xs.length = n) (h1 : Rd w a1 (opsV xs)) (h2 : Rd w a2 (opsV xs)) :
    Calls Try.prog 94 #[.slice a1 n c1, .slice a2 n c2] w fun e w' => e = .returned (.bool true) ∧ Below w.heap.size w w' := by
  have HL := Lib.hid hl
  clear hl
  go_enter Try.func94, Try.ntmps94
  go_wp2
  go_loopw [5] (fun i wr => ∃ k : Nat, k ≤ n ∧ i = .int .i64 k ∧ Below w.heap.size w wr) (fun i _ => n - (intOf i).toNat)
  case atStart => exact ⟨0, by omega, rfl, Below.refl _ _⟩
  case round =>
    obtain ⟨k, hk, rfl, hb⟩ := hrel
    by_cases hlt : k < n
    · obtain ⟨b1, o1, rfl, g1'⟩ := (h1.below hb).op (by have := HL.out; omega)
      obtain ⟨b2, o2, rfl, g2'⟩ := (h2.below hb).op (by have := HL.out; omega)
      obtain ⟨g1a, g1b, g1c⟩ := g1' k (by have := HL.out; omega)
      obtain ⟨g2a, g2b, g2c⟩ := g2' k (by have := HL.out; omega)
      obtain ⟨x, hx⟩ : ∃ x, x = xs.getD k noOp := ⟨_, rfl⟩
      rw [← hx] at g1a g1b g1c g2a g2b g2c
      clear g1' g2' hx
      go_wp2
      go_still_tail 8, (by kernel_rfl)
      go_wp2_with fail
      refine (eqOp_yes x wr.drew).mono ?_
      rintro e w2 ⟨rfl, b2'⟩
      go_wp2
      go_roundw
      case rel => exact ⟨k + 1, by omega, by go_num, hb.drew.trans (b2'.mono hb.size)⟩
      case measure => simp [intOf]; omega
    · have hkm : k = n := by omega
      subst hkm
      go_wp2
      go_ret
      exact ⟨rfl, hb⟩

set_option maxRecDepth 100000 in
set_option maxHeartbeats 400000 in
theorem eqOpSS_yes (a1 a2 : Option Addr) (n c1 c2 : Nat) (ts : List (List OpD)) (us1 us2 : List Value) (w : World) (hn : n ≤ 1099511627776) (hl : ts.length = n) (hin : ∀ i, (ts.getD i []).length ≤ 1099511627776) (h1 : RdT w a1 ts us1) (h2 : RdT w a2 ts us2) :
    Calls Try.prog 57 #[.slice a1 n c1, .slice a2 n c2] w fun e w' => e = .returned (.bool true) ∧ Below w.heap.size w w' := by
  have HL := Lib.hid hl
  have HI := Lib.hid hin
  clear hl hin
  go_enter Try.func57, Try.ntmps57
  go_wp2
  go_loopw [5] (fun i wr => ∃ k : Nat, k ≤ n ∧ i = .int .i64 k ∧ Below w.heap.size w wr) (fun i _ => n - (intOf i).toNat)
  case atStart => exact ⟨0, by omega, rfl, Below.refl _ _⟩
  case round =>
    obtain ⟨k, hk, rfl, hb⟩ := hrel
    by_cases hlt : k < n
    · obtain ⟨b1, o1, rfl, g1'⟩ := (h1.below hb).thread (by have := HL.out; omega)
      obtain ⟨b2, o2, rfl, g2'⟩ := (h2.below hb).thread (by have := HL.out; omega)
      obtain ⟨x1, y1, g1, r1⟩ := g1' k (by have := HL.out; omega)
      obtain ⟨x2, y2, g2, r2⟩ := g2' k (by have := HL.out; omega)
      obtain ⟨m, hm⟩ : ∃ m, m = (ts.getD k []).length := ⟨_, rfl⟩
      rw [← hm] at g1 g2
      have hmm := HI.out k
      rw [← hm] at hmm
      have HM := Lib.hid hm
      clear g1' g2' hm
      go_wp2
      go_still_tail 8, (by kernel_rfl)
      go_wp2_with fail
      refine (eqOpS_yes x1 x2 m y1 y2 (ts.getD k []) wr.drew hmm HM.out.symm r1 r2).mono ?_
      rintro e w2 ⟨rfl, b2'⟩
      go_wp2
      go_roundw
      case rel => exact ⟨k + 1, by omega, by go_num, hb.drew.trans (b2'.mono hb.size)⟩
      case measure => simp [intOf]; omega
    · have hkm : k = n := by omega
      subst hkm
      go_wp2
      go_ret
      exact ⟨rfl, hb⟩

theorem Blk.dn {w w' : World} {b : Nat} {cs : Array Value} {t : TypeId} (h : Blk w b cs t) (d : ∃ n, w' = w.drewN n) : Blk w' b cs t := by
  obtain ⟨n, rfl⟩ := d; exact h

/-- The sizes are small: what the statements' bound leaves. -/
structure Small (v : PV) (p : Pg) : Prop where
  ls : v.ns ≤ 1048576
  lg : v.ng ≤ 1048576
  lb : v.nb ≤ 1048576
  lr : v.nr ≤ 1048576
  lt : v.nt ≤ 1048576
  inn : ∀ i, (p.threads.getD i []).length ≤ 1048576

set_option maxHeartbeats 1000000 in
theorem eqProg_yes (v u : PV) (p : Pg) (w : World) (hv : RdP w v p) (hu : RdP w u p) (hz : Small v p) :
    Calls Try.prog 21 #[.agg #[.slice v.s v.ns v.cs, .slice v.g v.ng v.cg, .slice v.b v.nb v.cb, .slice v.r v.nr v.cr, .slice v.t v.nt v.ct], .agg #[.slice u.s u.ns u.cs, .slice u.g u.ng u.cg, .slice u.b u.nb u.cb, .slice u.r u.nr u.cr, .slice u.t u.nt u.ct]] w fun e w' => e = .returned (.bool true) ∧ Below w.heap.size w w' := by
  have e1 : u.ns = v.ns := by rw [← hu.ls, hv.ls]
  have e2 : u.ng = v.ng := by rw [← hu.lg, hv.lg]
  have e3 : u.nb = v.nb := by rw [← hu.lb, hv.lb]
  have e4 : u.nr = v.nr := by rw [← hu.lr, hv.lr]
  have e5 : u.nt = v.nt := by rw [← hu.lt, hv.lt]
  obtain ⟨us1, hus1⟩ := hv.rt
  obtain ⟨us2, hus2⟩ := hu.rt
  obtain ⟨uS, uns, ucs, uG, ung, ucg, uB, unb, ucb, uR, unr, ucr, uT, unt, uct⟩ := u
  simp only at e1 e2 e3 e4 e5
  subst e1 e2 e3 e4 e5
  have b0 : Below w.heap.size w ((w.alloc (.cells #[.slice v.s v.ns v.cs, .slice v.g v.ng v.cg, .slice v.b v.nb v.cb, .slice v.r v.nr v.cr, .slice v.t v.nt v.ct] 26)).alloc (.cells #[.slice uS v.ns ucs, .slice uG v.ng ucg, .slice uB v.nb ucb, .slice uR v.nr ucr, .slice uT v.nt uct] 26)) := ((Below.refl _ _).alloc (Nat.le_refl _) _).alloc (by simp) _
  have ls := Lib.hid hv.ls
  have lg := Lib.hid hv.lg
  have lb := Lib.hid hv.lb
  have lr := Lib.hid hv.lr
  have lt := Lib.hid hv.lt
  have kA0 : Blk ((w.alloc (.cells #[.slice v.s v.ns v.cs, .slice v.g v.ng v.cg, .slice v.b v.nb v.cb, .slice v.r v.nr v.cr, .slice v.t v.nt v.ct] 26)).alloc (.cells #[.slice uS v.ns ucs, .slice uG v.ng ucg, .slice uB v.nb ucb, .slice uR v.nr ucr, .slice uT v.nt uct] 26)) w.heap.size #[.slice v.s v.ns v.cs, .slice v.g v.ng v.cg, .slice v.b v.nb v.cb, .slice v.r v.nr v.cr, .slice v.t v.nt v.ct] 26 := (Blk.new _ _ _).alloc _
  have kB0 : Blk ((w.alloc (.cells #[.slice v.s v.ns v.cs, .slice v.g v.ng v.cg, .slice v.b v.nb v.cb, .slice v.r v.nr v.cr, .slice v.t v.nt v.ct] 26)).alloc (.cells #[.slice uS v.ns ucs, .slice uG v.ng ucg, .slice uB v.nb ucb, .slice uR v.nr ucr, .slice uT v.nt uct] 26)) (w.heap.size + 1) #[.slice uS v.ns ucs, .slice uG v.ng ucg, .slice uB v.nb ucb, .slice uR v.nr ucr, .slice uT v.nt uct] 26 := by simpa using Blk.new (w.alloc (.cells #[.slice v.s v.ns v.cs, .slice v.g v.ng v.cg, .slice v.b v.nb v.cb, .slice v.r v.nr v.cr, .slice v.t v.nt v.ct] 26)) #[.slice uS v.ns ucs, .slice uG v.ng ucg, .slice uB v.nb ucb, .slice uR v.nr ucr, .slice uT v.nt uct] 26
  obtain ⟨z1, z2, z3, z4, z5, z6⟩ := hz
  have Z6 := Lib.hid z6
  clear z6
  go_enter Try.func21, Try.ntmps21
  go_wp2_with fail
  refine (eqIntS_yes v.s uS v.ns v.cs ucs p.sems _ ls.out (by omega) (hv.rs.below b0) (hu.rs.below b0)).mono ?_
  rintro e w1 ⟨rfl, d1⟩
  have B1 := b0.trans (below_of_drewN d1)
  have kA1 := kA0.dn d1
  have kB1 := kB0.dn d1
  have ca1 := kA1.cell 1 rfl
  have cb1 := kB1.cell 1 rfl
  clear d1
  go_wp2_with fail
  refine (eqIntS_yes v.g uG v.ng v.cg ucg p.groups _ lg.out (by omega) (hv.rg.below B1) (hu.rg.below B1)).mono ?_
  rintro e w2 ⟨rfl, d2⟩
  have B2 := B1.trans (below_of_drewN d2)
  have kA2 := kA1.dn d2
  have kB2 := kB1.dn d2
  have ca2 := kA2.cell 2 rfl
  have cb2 := kB2.cell 2 rfl
  clear d2
  go_wp2_with fail
  refine (eqIntS_yes v.b uB v.nb v.cb ucb p.barriers _ lb.out (by omega) (hv.rb.below B2) (hu.rb.below B2)).mono ?_
  rintro e w3 ⟨rfl, d3⟩
  have B3 := B2.trans (below_of_drewN d3)
  have kA3 := kA2.dn d3
  have kB3 := kB2.dn d3
  have ca3 := kA3.cell 3 rfl
  have cb3 := kB3.cell 3 rfl
  clear d3
  go_wp2_with fail
  refine (eqIntS_yes v.r uR v.nr v.cr ucr p.rooms _ lr.out (by omega) (hv.rr.below B3) (hu.rr.below B3)).mono ?_
  rintro e w4 ⟨rfl, d4⟩
  have B4 := B3.trans (below_of_drewN d4)
  have kA4 := kA3.dn d4
  have kB4 := kB3.dn d4
  have ca4 := kA4.cell 4 rfl
  have cb4 := kB4.cell 4 rfl
  clear d4
  go_wp2_with fail
  refine (eqOpSS_yes v.t uT v.nt v.ct uct p.threads us1 us2 _ (by omega) lt.out (fun i => by have := Z6.out i; omega) (hus1.below B4) (hus2.below B4)).mono ?_
  rintro e w5 ⟨rfl, b5⟩
  go_wp2
  go_ret
  exact ⟨rfl, B4.trans (b5.mono B4.size)⟩

end Go.Proofs.Ytnobkdkfhgjeeab
