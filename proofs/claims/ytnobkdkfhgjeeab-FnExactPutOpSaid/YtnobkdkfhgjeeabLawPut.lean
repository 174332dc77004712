/- The law FnExactPutOp: its walk. -/
import Derived.Test.YtnobkdkfhgjeeabPutSpec
import Derived.Test.YtnobkdkfhgjeeabLawFit
import Derived.Test.YtnobkdkfhgjeeabStoreReg
import Derived.Deep.RegionHeld3
import Derived.Deep.Cut
namespace Go.Proofs.Ytnobkdkfhgjeeab
open Go.RowKit

theorem fit_put {v : PV} {p : Pg} {w : World} (a x : Int) (o : OpD) (hr : RdP w v p) (hs : Small v p) (h : ¬ 1048576 < total v p) : FitP ((putOp p a x o).getD noPg) := by
  have hsp := hs.data hr
  have hl := lenSum_le hr h
  unfold putOp changeP
  split
  · next h' =>
    cases hc : putRes p a x o with
    | none => exact fit_none
    | some p' =>
      have h1 := putRes_ok hsp h'.2.1 h'.2.2 p' hc
      refine fit_of h1.1 ?_
      unfold putRes at hc
      split at hc
      · obtain rfl : p.thr (p.threads.set a.toNat ((p.threads.getD a.toNat []).insertIdx x.toNat o)) = p' := by simpa using hc
        have h2 := lenSum_set p.threads a.toNat ((p.threads.getD a.toNat []).insertIdx x.toNat o)
        have h3 : ((p.threads.getD a.toNat []).insertIdx x.toNat o).length ≤ (p.threads.getD a.toNat []).length + 1 := by
          rw [List.length_insertIdx]; split <;> omega
        have h4 := hsp.inn a.toNat
        show lenSum (p.threads.set a.toNat _) ≤ _
        omega
      · cases hc
  · exact fit_none

set_option maxRecDepth 100000 in
set_option maxHeartbeats 8000000 in
theorem lawPutOp (v : PV) (p : Pg) (a b : Int) (o : OpD) (w : World) (hr : RdP w v p) (hz : Lens v p) :
    Calls Try.prog 4 #[.agg #[.slice v.s v.ns v.cs, .slice v.g v.ng v.cg, .slice v.b v.nb v.cb, .slice v.r v.nr v.cr, .slice v.t v.nt v.ct], .int .i64 a, .int .i64 b, .agg #[.int .i64 o.kind, .int .i64 o.on, .int .i64 o.arg]] w fun e w' => e = .returned (.bool true) ∧ Below w.heap.size w w' := by
  have B0 : Below w.heap.size w ((w.alloc (.cells #[.slice v.s v.ns v.cs, .slice v.g v.ng v.cg, .slice v.b v.nb v.cb, .slice v.r v.nr v.cr, .slice v.t v.nt v.ct] 38)).alloc (.cells #[.int .i64 o.kind, .int .i64 o.on, .int .i64 o.arg] 40)) := ((Below.refl _ _).alloc (Nat.le_refl _) _).alloc (by simp) _
  have k0 : Blk ((w.alloc (.cells #[.slice v.s v.ns v.cs, .slice v.g v.ng v.cg, .slice v.b v.nb v.cb, .slice v.r v.nr v.cr, .slice v.t v.nt v.ct] 38)).alloc (.cells #[.int .i64 o.kind, .int .i64 o.on, .int .i64 o.arg] 40)) w.heap.size #[.slice v.s v.ns v.cs, .slice v.g v.ng v.cg, .slice v.b v.nb v.cb, .slice v.r v.nr v.cr, .slice v.t v.nt v.ct] 38 := (Blk.new _ _ _).alloc _
  have kO : Blk ((w.alloc (.cells #[.slice v.s v.ns v.cs, .slice v.g v.ng v.cg, .slice v.b v.nb v.cb, .slice v.r v.nr v.cr, .slice v.t v.nt v.ct] 38)).alloc (.cells #[.int .i64 o.kind, .int .i64 o.on, .int .i64 o.arg] 40)) (w.heap.size + 1) #[.int .i64 o.kind, .int .i64 o.on, .int .i64 o.arg] 40 := by simpa using Blk.new (w.alloc (.cells #[.slice v.s v.ns v.cs, .slice v.g v.ng v.cg, .slice v.b v.nb v.cb, .slice v.r v.nr v.cr, .slice v.t v.nt v.ct] 38)) #[.int .i64 o.kind, .int .i64 o.on, .int .i64 o.arg] 40
  have q0 : ((w.alloc (.cells #[.slice v.s v.ns v.cs, .slice v.g v.ng v.cg, .slice v.b v.nb v.cb, .slice v.r v.nr v.cr, .slice v.t v.nt v.ct] 38)).alloc (.cells #[.int .i64 o.kind, .int .i64 o.on, .int .i64 o.arg] 40)).cell? ⟨w.heap.size, 0, none⟩ = some (.slice v.s v.ns v.cs) := k0.cell 0 rfl
  have q1 : ((w.alloc (.cells #[.slice v.s v.ns v.cs, .slice v.g v.ng v.cg, .slice v.b v.nb v.cb, .slice v.r v.nr v.cr, .slice v.t v.nt v.ct] 38)).alloc (.cells #[.int .i64 o.kind, .int .i64 o.on, .int .i64 o.arg] 40)).cell? ⟨w.heap.size, 1, none⟩ = some (.slice v.g v.ng v.cg) := k0.cell 1 rfl
  have q2 : ((w.alloc (.cells #[.slice v.s v.ns v.cs, .slice v.g v.ng v.cg, .slice v.b v.nb v.cb, .slice v.r v.nr v.cr, .slice v.t v.nt v.ct] 38)).alloc (.cells #[.int .i64 o.kind, .int .i64 o.on, .int .i64 o.arg] 40)).cell? ⟨w.heap.size, 2, none⟩ = some (.slice v.b v.nb v.cb) := k0.cell 2 rfl
  have q3 : ((w.alloc (.cells #[.slice v.s v.ns v.cs, .slice v.g v.ng v.cg, .slice v.b v.nb v.cb, .slice v.r v.nr v.cr, .slice v.t v.nt v.ct] 38)).alloc (.cells #[.int .i64 o.kind, .int .i64 o.on, .int .i64 o.arg] 40)).cell? ⟨w.heap.size, 3, none⟩ = some (.slice v.r v.nr v.cr) := k0.cell 3 rfl
  have q4 : ((w.alloc (.cells #[.slice v.s v.ns v.cs, .slice v.g v.ng v.cg, .slice v.b v.nb v.cb, .slice v.r v.nr v.cr, .slice v.t v.nt v.ct] 38)).alloc (.cells #[.int .i64 o.kind, .int .i64 o.on, .int .i64 o.arg] 40)).cell? ⟨w.heap.size, 4, none⟩ = some (.slice v.t v.nt v.ct) := k0.cell 4 rfl
  have p0 : ((w.alloc (.cells #[.slice v.s v.ns v.cs, .slice v.g v.ng v.cg, .slice v.b v.nb v.cb, .slice v.r v.nr v.cr, .slice v.t v.nt v.ct] 38)).alloc (.cells #[.int .i64 o.kind, .int .i64 o.on, .int .i64 o.arg] 40)).cell? ⟨w.heap.size + 1, 0, none⟩ = some (.int .i64 o.kind) := kO.cell 0 rfl
  have p1 : ((w.alloc (.cells #[.slice v.s v.ns v.cs, .slice v.g v.ng v.cg, .slice v.b v.nb v.cb, .slice v.r v.nr v.cr, .slice v.t v.nt v.ct] 38)).alloc (.cells #[.int .i64 o.kind, .int .i64 o.on, .int .i64 o.arg] 40)).cell? ⟨w.heap.size + 1, 1, none⟩ = some (.int .i64 o.on) := kO.cell 1 rfl
  have p2 : ((w.alloc (.cells #[.slice v.s v.ns v.cs, .slice v.g v.ng v.cg, .slice v.b v.nb v.cb, .slice v.r v.nr v.cr, .slice v.t v.nt v.ct] 38)).alloc (.cells #[.int .i64 o.kind, .int .i64 o.on, .int .i64 o.arg] 40)).cell? ⟨w.heap.size + 1, 2, none⟩ = some (.int .i64 o.arg) := kO.cell 2 rfl
  clear k0 kO
  by_cases hc1 : 1048576 < total v p
  · go_enter Try.func4, Try.ntmps4
    go_wp2_with fail
    refine (szProg_far v p _ (hr.below B0) hz hc1).mono ?_
    rintro e w1 ⟨rfl, hb⟩
    go_wp2
    go_ret
    exact ⟨rfl, B0.trans (hb.mono B0.size)⟩
  have hsm := small_of hr hz hc1
  have HF : Hid (FitP ((putOp p a b o).getD noPg)) := Lib.hid (fit_put a b o hr hsm hc1)
  obtain ⟨sb, hsb⟩ : ∃ sb, (putOp p a b o).isSome = sb := ⟨_, rfl⟩
  obtain ⟨rp, hrp⟩ : ∃ rp, (putOp p a b o).getD noPg = rp := ⟨_, rfl⟩
  rw [hrp] at HF
  have HSB := Lib.hid hsb
  have HRP := Lib.hid hrp
  clear hsb hrp
  have HS := Lib.hid hsm
  have hs5 : Hid (v.ns ≤ 1048576 ∧ v.ng ≤ 1048576 ∧ v.nb ≤ 1048576 ∧ v.nr ≤ 1048576 ∧ v.nt ≤ 1048576) := Lib.hid ⟨hsm.ls, hsm.lg, hsm.lb, hsm.lr, hsm.lt⟩
  have HI : Hid (∀ i, (p.threads.getD i []).length ≤ 1099511627776) := Lib.hid (fun i => Nat.le_trans (hsm.inn i) (by decide))
  have HC : Hid (p.cells.size ≤ 3145728 ∧ ∀ i, (p.cells.t.getD i []).length ≤ 3145728) := Lib.hid (cells_size hr hc1)
  clear hsm
  go_enter Try.func4, Try.ntmps4
  go_wp2_with fail
  refine (szProg_near v p _ (hr.below B0) hz hc1).mono ?_
  rintro e wS ⟨l, rfl, hl, hb⟩
  replace q0 := keepc hb q0
  replace q1 := keepc hb q1
  replace q2 := keepc hb q2
  replace q3 := keepc hb q3
  replace q4 := keepc hb q4
  replace p0 := keepc hb p0
  replace p1 := keepc hb p1
  replace p2 := keepc hb p2
  replace B0 := B0.trans (hb.mono B0.size)
  clear hb
  have hl0 : decide (l < 0) = false := decide_eq_false (by omega)
  clear hl hc1
  have hw1 : Hid (w.heap.size + 1 < wS.heap.size) := Lib.hid (World.block_lt_of_cell? _ _ p0)
  go_wp2
  refine wp_region_steps 12 (by kernel_rfl) (by kernel_rfl) [fun dz uz wz => uz = .agg #[.slice v.s v.ns v.cs, .slice v.g v.ng v.cg, .slice v.b v.nb v.cb, .slice v.r v.nr v.cr, .slice v.t v.nt v.ct], fun dz uz wz => (∃ (u : PV) (us : List Value), uz = .agg #[.slice u.s u.ns u.cs, .slice u.g u.ng u.cg, .slice u.b u.nb u.cb, .slice u.r u.nr u.cr, .slice u.t u.nt u.ct] ∧ OwnP wz u us p.cells ∧ (fpP u us).Nodup ∧ ∀ k ∈ fpP u us, wS.heap.size ≤ k), fun dz uz wz => uz = .int .i64 a, fun dz uz wz => uz = .int .i64 b, fun dz uz wz => uz = .agg #[.int .i64 o.kind, .int .i64 o.on, .int .i64 o.arg], fun dz uz wz => uz = .agg #[.int .i64 o.kind, .int .i64 o.on, .int .i64 o.arg], fun dz uz wz => (∃ (u : PV) (us : List Value), uz = .tuple #[.agg #[.slice u.s u.ns u.cs, .slice u.g u.ng u.cg, .slice u.b u.nb u.cb, .slice u.r u.nr u.cr, .slice u.t u.nt u.ct], .bool sb] ∧ OwnP wz u us rp.cells ∧ True), fun dz uz wz => (∃ u : PV, uz = .tuple #[.agg #[.slice u.s u.ns u.cs, .slice u.g u.ng u.cg, .slice u.b u.nb u.cb, .slice u.r u.nr u.cr, .slice u.t u.nt u.ct], .bool sb] ∧ uz = (dz.getD 0 undef)), fun dz uz wz => (∃ u : PV, uz = .agg #[.slice u.s u.ns u.cs, .slice u.g u.ng u.cg, .slice u.b u.nb u.cb, .slice u.r u.nr u.cr, .slice u.t u.nt u.ct] ∧ (dz.getD 0 undef) = .tuple #[.agg #[.slice u.s u.ns u.cs, .slice u.g u.ng u.cg, .slice u.b u.nb u.cb, .slice u.r u.nr u.cr, .slice u.t u.nt u.ct], .bool sb]), fun dz uz wz => uz = .bool sb, fun dz uz wz => (∃ g : Nat, uz = .pointer (some ⟨g, 0, none⟩) ∧ (∃ c0 c1 c2 c3 c4 : Value, Blk wz g #[c0, c1, c2, c3, c4] 26) ∧ wS.heap.size ≤ g), fun dz uz wz => (∃ (g : Nat) (u : PV), (dz.getD 0 undef) = .pointer (some ⟨g, 0, none⟩) ∧ (dz.getD 1 undef) = .agg #[.slice u.s u.ns u.cs, .slice u.g u.ng u.cg, .slice u.b u.nb u.cb, .slice u.r u.nr u.cr, .slice u.t u.nt u.ct] ∧ Blk wz g #[.slice u.s u.ns u.cs, .slice u.g u.ng u.cg, .slice u.b u.nb u.cb, .slice u.r u.nr u.cr, .slice u.t u.nt u.ct] 26)] (St1 11 (TP wS.heap.size)) (fun _ _ => none) (fun _ w' => Below wS.heap.size wS w') (fun _ _ => (Below.refl _ _).drew) (st1_size (fun _ _ h => h.bel.size)) (stab1_of ⟨fun _ _ _ _ _ h => h, fun _ _ _ _ hb ⟨u, us, e, h, nd, fr⟩ => ⟨u, us, e, h.below hb, nd, fr⟩, fun _ _ _ _ _ h => h, fun _ _ _ _ _ h => h, fun _ _ _ _ _ h => h, fun _ _ _ _ _ h => h, fun _ _ _ _ hb ⟨u, us, e, h, nd⟩ => ⟨u, us, e, h.below hb, nd⟩, fun _ _ _ _ _ h => h, fun _ _ _ _ _ h => h, fun _ _ _ _ _ h => h, fun _ _ _ _ hb ⟨g, e, ⟨c0, c1, c2, c3, c4, h⟩, hs⟩ => ⟨g, e, ⟨c0, c1, c2, c3, c4, h.below hb⟩, hs⟩, fun _ _ _ _ hb ⟨g, u, e1, e2, h⟩ => ⟨g, u, e1, e2, h.below hb⟩, trivial⟩ ⟨.inr (fun _ _ _ _ _ h => h), .inr (fun _ _ _ _ hT ⟨u, us, e, h, nd, fr⟩ => ⟨u, us, e, h.tp hT, nd, fr⟩), .inr (fun _ _ _ _ _ h => h), .inr (fun _ _ _ _ _ h => h), .inr (fun _ _ _ _ _ h => h), .inr (fun _ _ _ _ _ h => h), .inr (fun _ _ _ _ hT ⟨u, us, e, h, nd⟩ => ⟨u, us, e, h.tp hT, nd⟩), .inr (fun _ _ _ _ _ h => h), .inr (fun _ _ _ _ _ h => h), .inr (fun _ _ _ _ _ h => h), .inr (fun _ _ _ _ hT ⟨g, e, ⟨c0, c1, c2, c3, c4, h⟩, hs⟩ => ⟨g, e, hT.prg g _ _ _ _ _ h, hs⟩), .inl rfl, trivial⟩) ?_ ?_
  · simp only [List.take_succ_cons, List.take_zero]
    refine ⟨?_, ?_, ?_, ?_, ?_, ?_, ?_, ?_, ?_, ?_, ?_, ?_, trivial⟩
    · intro ρ w1 L hG hny hfr hd
      have fc : ∀ z, ρ (.const z) = z := fun _ => hfr _ rfl
      have ff : ∀ z, ρ (.func z) = .func (.func z) #[] #[] := fun _ => hfr _ rfl
      have f4 : ρ (.tmp 4) = .pointer (some ⟨w.heap.size, 0, none⟩) := hfr _ rfl
      have q0 := keepc hG q0
      have q1 := keepc hG q1
      have q2 := keepc hG q2
      have q3 := keepc hG q3
      have q4 := keepc hG q4
      refine gives_val (u := .agg #[.slice v.s v.ns v.cs, .slice v.g v.ng v.cg, .slice v.b v.nb v.cb, .slice v.r v.nr v.cr, .slice v.t v.nt v.ct]) (w' := w1) (by go_simp) ⟨st1_below (by decide) (Below.refl _ _), rfl, (fun _ hk => by cases hk), hG⟩
    · intro ρ w1 L hG hny hfr hd
      have fc : ∀ z, ρ (.const z) = z := fun _ => hfr _ rfl
      have ff : ∀ z, ρ (.func z) = .func (.func z) #[] #[] := fun _ => hfr _ rfl
      obtain ⟨d0, -⟩ := hd
      have d0 : (ρ (.tmp 26)) = .agg #[.slice v.s v.ns v.cs, .slice v.g v.ng v.cg, .slice v.b v.nb v.cb, .slice v.r v.nr v.cr, .slice v.t v.nt v.ct] := d0
      refine gives_call (by go_simp; exact ⟨⟨rfl, rfl⟩, rfl⟩) ?_
      refine (toProg_any v p _ (hr.below (B0.trans (hG.mono B0.size))) hs5.out HI.out).mono ?_
      rintro e w3 ⟨u, us, rfl, ou, nd, fr, hb⟩
      exact ⟨_, rfl, st1_below (by decide) (hb), ⟨u, us, rfl, ou, nd, fun k hk => Nat.le_trans hG.size (fr k hk)⟩, (fun _ hk => by cases hk), hG.trans (hb.mono hG.size)⟩
    · intro ρ w1 L hG hny hfr hd
      have fc : ∀ z, ρ (.const z) = z := fun _ => hfr _ rfl
      have ff : ∀ z, ρ (.func z) = .func (.func z) #[] #[] := fun _ => hfr _ rfl
      have f1 : ρ (.tmp 1) = .int .i64 a := hfr _ rfl
      refine gives_val (u := .int .i64 a) (w' := w1) (by go_simp) ⟨st1_below (by decide) (Below.refl _ _), rfl, (fun _ hk => by cases hk), hG⟩
    · intro ρ w1 L hG hny hfr hd
      have fc : ∀ z, ρ (.const z) = z := fun _ => hfr _ rfl
      have ff : ∀ z, ρ (.func z) = .func (.func z) #[] #[] := fun _ => hfr _ rfl
      have f2 : ρ (.tmp 2) = .int .i64 b := hfr _ rfl
      refine gives_val (u := .int .i64 b) (w' := w1) (by go_simp) ⟨st1_below (by decide) (Below.refl _ _), rfl, (fun _ hk => by cases hk), hG⟩
    · intro ρ w1 L hG hny hfr hd
      have fc : ∀ z, ρ (.const z) = z := fun _ => hfr _ rfl
      have ff : ∀ z, ρ (.func z) = .func (.func z) #[] #[] := fun _ => hfr _ rfl
      have f7 : ρ (.tmp 7) = .pointer (some ⟨w.heap.size + 1, 0, none⟩) := hfr _ rfl
      have p0 := keepc hG p0
      have p1 := keepc hG p1
      have p2 := keepc hG p2
      refine gives_val (u := .agg #[.int .i64 o.kind, .int .i64 o.on, .int .i64 o.arg]) (w' := w1) (by go_simp) ⟨st1_below (by decide) (Below.refl _ _), rfl, (fun _ hk => by cases hk), hG⟩
    · intro ρ w1 L hG hny hfr hd
      have fc : ∀ z, ρ (.const z) = z := fun _ => hfr _ rfl
      have ff : ∀ z, ρ (.func z) = .func (.func z) #[] #[] := fun _ => hfr _ rfl
      obtain ⟨d0, -⟩ := hd
      have d0 : (ρ (.tmp 30)) = .agg #[.int .i64 o.kind, .int .i64 o.on, .int .i64 o.arg] := d0
      refine gives_call (by go_simp; exact ⟨⟨rfl, rfl⟩, rfl⟩) ?_
      refine (toOp_any o _).mono ?_
      rintro e w3 ⟨rfl, hb⟩
      exact ⟨_, rfl, st1_below (by decide) (hb), rfl, (fun _ hk => by cases hk), hG.trans (hb.mono hG.size)⟩
    · intro ρ w1 L hG hny hfr hd
      have fc : ∀ z, ρ (.const z) = z := fun _ => hfr _ rfl
      have ff : ∀ z, ρ (.func z) = .func (.func z) #[] #[] := fun _ => hfr _ rfl
      obtain ⟨d0, d1, d2, d3, -⟩ := hd
      have d0 : (∃ (u : PV) (us : List Value), (ρ (.tmp 27)) = .agg #[.slice u.s u.ns u.cs, .slice u.g u.ng u.cg, .slice u.b u.nb u.cb, .slice u.r u.nr u.cr, .slice u.t u.nt u.ct] ∧ OwnP w1 u us p.cells ∧ (fpP u us).Nodup ∧ ∀ k ∈ fpP u us, wS.heap.size ≤ k) := d0
      have d1 : (ρ (.tmp 28)) = .int .i64 a := d1
      have d2 : (ρ (.tmp 29)) = .int .i64 b := d2
      have d3 : (ρ (.tmp 31)) = .agg #[.int .i64 o.kind, .int .i64 o.on, .int .i64 o.arg] := d3
      obtain ⟨v1, vs1, d0, o1, nd1, fr1⟩ := d0
      refine gives_call (by go_simp; exact ⟨⟨rfl, rfl⟩, rfl⟩) ?_
      refine (specPutOp_any v1 p a b o _ o1.rd (HS.out.at hr o1.rd) o1.cap).mono ?_
      rintro e w3 ⟨u, us, rfl, ou, hb⟩
      exact ⟨_, rfl, st1_below (by decide) (hb), ⟨u, us, by rw [← HSB.out]; rfl, by rw [← HRP.out]; exact ou, trivial⟩, (fun _ hk => by cases hk), hG.trans (hb.mono hG.size)⟩
    · intro ρ w1 L hG hny hfr hd
      have fc : ∀ z, ρ (.const z) = z := fun _ => hfr _ rfl
      have ff : ∀ z, ρ (.func z) = .func (.func z) #[] #[] := fun _ => hfr _ rfl
      obtain ⟨d0, -⟩ := hd
      have d0 : (∃ (u : PV) (us : List Value), (ρ (.tmp 32)) = .tuple #[.agg #[.slice u.s u.ns u.cs, .slice u.g u.ng u.cg, .slice u.b u.nb u.cb, .slice u.r u.nr u.cr, .slice u.t u.nt u.ct], .bool sb] ∧ OwnP w1 u us rp.cells ∧ True) := d0
      obtain ⟨u, us, e6, -⟩ := d0
      refine gives_val (u := .tuple #[.agg #[.slice u.s u.ns u.cs, .slice u.g u.ng u.cg, .slice u.b u.nb u.cb, .slice u.r u.nr u.cr, .slice u.t u.nt u.ct], .bool sb]) (w' := w1) (by go_simp) ⟨st1_below (by decide) (Below.refl _ _), ⟨u, rfl, e6.symm⟩, (fun _ hk => by cases hk), hG⟩
    · intro ρ w1 L hG hny hfr hd
      have fc : ∀ z, ρ (.const z) = z := fun _ => hfr _ rfl
      have ff : ∀ z, ρ (.func z) = .func (.func z) #[] #[] := fun _ => hfr _ rfl
      obtain ⟨d0, -⟩ := hd
      have d0 : (∃ u : PV, (ρ (.tmp 25)) = .tuple #[.agg #[.slice u.s u.ns u.cs, .slice u.g u.ng u.cg, .slice u.b u.nb u.cb, .slice u.r u.nr u.cr, .slice u.t u.nt u.ct], .bool sb] ∧ (ρ (.tmp 25)) = (ρ (.tmp 32))) := d0
      obtain ⟨u, e7, -⟩ := d0
      refine gives_val (u := .agg #[.slice u.s u.ns u.cs, .slice u.g u.ng u.cg, .slice u.b u.nb u.cb, .slice u.r u.nr u.cr, .slice u.t u.nt u.ct]) (w' := w1) (by go_simp) ⟨st1_below (by decide) (Below.refl _ _), ⟨u, rfl, e7⟩, (fun _ hk => by cases hk), hG⟩
    · intro ρ w1 L hG hny hfr hd
      have fc : ∀ z, ρ (.const z) = z := fun _ => hfr _ rfl
      have ff : ∀ z, ρ (.func z) = .func (.func z) #[] #[] := fun _ => hfr _ rfl
      obtain ⟨d0, -⟩ := hd
      have d0 : (∃ u : PV, (ρ (.tmp 25)) = .tuple #[.agg #[.slice u.s u.ns u.cs, .slice u.g u.ng u.cg, .slice u.b u.nb u.cb, .slice u.r u.nr u.cr, .slice u.t u.nt u.ct], .bool sb] ∧ (ρ (.tmp 25)) = (ρ (.tmp 32))) := d0
      obtain ⟨u, e7, -⟩ := d0
      refine gives_val (u := .bool sb) (w' := w1) (by go_simp) ⟨st1_below (by decide) (Below.refl _ _), rfl, (fun _ hk => by cases hk), hG⟩
    · intro ρ w1 L hG hny hfr hd
      have fc : ∀ z, ρ (.const z) = z := fun _ => hfr _ rfl
      have ff : ∀ z, ρ (.func z) = .func (.func z) #[] #[] := fun _ => hfr _ rfl
      refine gives_val (u := .pointer (some ⟨w1.heap.size, 0, none⟩)) (w' := w1.alloc (.cells #[.slice none 0 0, .slice none 0 0, .slice none 0 0, .slice none 0 0, .slice none 0 0] 26)) (by go_simp) ⟨st1_below (by decide) ((Below.refl _ _).alloc (Nat.le_refl _) _), ⟨_, rfl, ⟨_, _, _, _, _, Blk.new _ _ _⟩, hG.size⟩, (fun _ hk => by cases hk), hG.alloc hG.size _⟩
    · intro ρ w1 L hG hny hfr hd
      have fc : ∀ z, ρ (.const z) = z := fun _ => hfr _ rfl
      have ff : ∀ z, ρ (.func z) = .func (.func z) #[] #[] := fun _ => hfr _ rfl
      obtain ⟨d0, d1, -⟩ := hd
      have d0 : (∃ g : Nat, (ρ (.tmp 10)) = .pointer (some ⟨g, 0, none⟩) ∧ (∃ c0 c1 c2 c3 c4 : Value, Blk w1 g #[c0, c1, c2, c3, c4] 26) ∧ wS.heap.size ≤ g) := d0
      have d1 : (∃ u : PV, (ρ (.tmp 33)) = .agg #[.slice u.s u.ns u.cs, .slice u.g u.ng u.cg, .slice u.b u.nb u.cb, .slice u.r u.nr u.cr, .slice u.t u.nt u.ct] ∧ (ρ (.tmp 25)) = .tuple #[.agg #[.slice u.s u.ns u.cs, .slice u.g u.ng u.cg, .slice u.b u.nb u.cb, .slice u.r u.nr u.cr, .slice u.t u.nt u.ct], .bool sb]) := d1
      obtain ⟨g, e10, ⟨c0, c1, c2, c3, c4, hB⟩, hgs⟩ := d0
      obtain ⟨u, e8, -⟩ := d1
      have z0 := hB.cell 0 rfl
      have z1 := hB.cell 1 rfl
      have z2 := hB.cell 2 rfl
      have z3 := hB.cell 3 rfl
      have z4 := hB.cell 4 rfl
      have y0 := hB.fz 0
      have y1 := hB.fz 1
      have y2 := hB.fz 2
      have y3 := hB.fz 3
      have y4 := hB.fz 4
      have hst := TP.store (B := wS.heap.size) (a0 := .slice u.s u.ns u.cs) (a1 := .slice u.g u.ng u.cg) (a2 := .slice u.b u.nb u.cb) (a3 := .slice u.r u.nr u.cr) (a4 := .slice u.t u.nt u.ct) hB hgs
      refine gives_skip (w' := (((((w1.setCell ⟨g, 0, none⟩ (.slice u.s u.ns u.cs)).setCell ⟨g, 1, none⟩ (.slice u.g u.ng u.cg)).setCell ⟨g, 2, none⟩ (.slice u.b u.nb u.cb)).setCell ⟨g, 3, none⟩ (.slice u.r u.nr u.cr)).setCell ⟨g, 4, none⟩ (.slice u.t u.nt u.ct))) (by go_simp) ⟨st1_own hst.1, ⟨g, u, e10, e8, hst.2⟩, (fun _ hk => by cases hk), hG.trans hst.1.bel⟩
  intro vs w3 L hG hlen hall hap hbd
  obtain ⟨xv0, vs0, rfl, hl0⟩ := len_cons hlen
  obtain ⟨xv1, vs1, rfl, hl1⟩ := len_cons hl0
  obtain ⟨xv2, vs2, rfl, hl2⟩ := len_cons hl1
  obtain ⟨xv3, vs3, rfl, hl3⟩ := len_cons hl2
  obtain ⟨xv4, vs4, rfl, hl4⟩ := len_cons hl3
  obtain ⟨xv5, vs5, rfl, hl5⟩ := len_cons hl4
  obtain ⟨xv6, vs6, rfl, hl6⟩ := len_cons hl5
  obtain ⟨xv7, vs7, rfl, hl7⟩ := len_cons hl6
  obtain ⟨xv8, vs8, rfl, hl8⟩ := len_cons hl7
  obtain ⟨xv9, vs9, rfl, hl9⟩ := len_cons hl8
  obtain ⟨xv10, vs10, rfl, hl10⟩ := len_cons hl9
  obtain ⟨xv11, vs11, rfl, hl11⟩ := len_cons hl10
  obtain rfl := len_nil hl11
  clear hlen hl0 hl1 hl2 hl3 hl4 hl5 hl6 hl7 hl8 hl9 hl10 hl11
  simp only [List.take_succ_cons, List.take_zero, List.drop_succ_cons, List.drop_zero] at hall ⊢
  obtain ⟨t0', t1', t2', t3', t4', t5', t6', t7', t8', t9', t10', t11', -⟩ := hall
  have hv0 : xv0 = .agg #[.slice v.s v.ns v.cs, .slice v.g v.ng v.cg, .slice v.b v.nb v.cb, .slice v.r v.nr v.cr, .slice v.t v.nt v.ct] := t0'
  have hv1 : (∃ (u : PV) (us : List Value), xv1 = .agg #[.slice u.s u.ns u.cs, .slice u.g u.ng u.cg, .slice u.b u.nb u.cb, .slice u.r u.nr u.cr, .slice u.t u.nt u.ct] ∧ OwnP w3 u us p.cells ∧ (fpP u us).Nodup ∧ ∀ k ∈ fpP u us, wS.heap.size ≤ k) := t1'
  have hv2 : xv2 = .int .i64 a := t2'
  have hv3 : xv3 = .int .i64 b := t3'
  have hv4 : xv4 = .agg #[.int .i64 o.kind, .int .i64 o.on, .int .i64 o.arg] := t4'
  have hv5 : xv5 = .agg #[.int .i64 o.kind, .int .i64 o.on, .int .i64 o.arg] := t5'
  have hv6 : (∃ (u : PV) (us : List Value), xv6 = .tuple #[.agg #[.slice u.s u.ns u.cs, .slice u.g u.ng u.cg, .slice u.b u.nb u.cb, .slice u.r u.nr u.cr, .slice u.t u.nt u.ct], .bool sb] ∧ OwnP w3 u us rp.cells ∧ True) := t6'
  have hv7 : (∃ u : PV, xv7 = .tuple #[.agg #[.slice u.s u.ns u.cs, .slice u.g u.ng u.cg, .slice u.b u.nb u.cb, .slice u.r u.nr u.cr, .slice u.t u.nt u.ct], .bool sb] ∧ xv7 = xv6) := t7'
  have hv8 : (∃ u : PV, xv8 = .agg #[.slice u.s u.ns u.cs, .slice u.g u.ng u.cg, .slice u.b u.nb u.cb, .slice u.r u.nr u.cr, .slice u.t u.nt u.ct] ∧ xv7 = .tuple #[.agg #[.slice u.s u.ns u.cs, .slice u.g u.ng u.cg, .slice u.b u.nb u.cb, .slice u.r u.nr u.cr, .slice u.t u.nt u.ct], .bool sb]) := t8'
  have hv9 : xv9 = .bool sb := t9'
  have hv10 : (∃ g : Nat, xv10 = .pointer (some ⟨g, 0, none⟩) ∧ (∃ c0 c1 c2 c3 c4 : Value, Blk w3 g #[c0, c1, c2, c3, c4] 26) ∧ wS.heap.size ≤ g) := t10'
  have hv11 : (∃ (g : Nat) (u : PV), xv10 = .pointer (some ⟨g, 0, none⟩) ∧ xv8 = .agg #[.slice u.s u.ns u.cs, .slice u.g u.ng u.cg, .slice u.b u.nb u.cb, .slice u.r u.nr u.cr, .slice u.t u.nt u.ct] ∧ Blk w3 g #[.slice u.s u.ns u.cs, .slice u.g u.ng u.cg, .slice u.b u.nb u.cb, .slice u.r u.nr u.cr, .slice u.t u.nt u.ct] 26) := t11'
  clear t0' t1' t2' t3' t4' t5' t6' t7' t8' t9' t10' t11'
  clear hap hbd
  subst hv0 hv2 hv3 hv4 hv5 hv9
  obtain ⟨gw, gus, hx6, ogw, -⟩ := hv6
  obtain ⟨u7, hx7, hx76⟩ := hv7
  obtain ⟨u8, hx8, hx87⟩ := hv8
  obtain ⟨yB, hx10, -, hg_yB⟩ := hv10
  obtain ⟨g11, u11, hx11, hx118, kB⟩ := hv11
  subst hx6
  subst hx7
  subst hx8
  subst hx10
  obtain rfl : yB = g11 := by simpa using hx11
  have e11 : (#[.slice u8.s u8.ns u8.cs, .slice u8.g u8.ng u8.cg, .slice u8.b u8.nb u8.cb, .slice u8.r u8.nr u8.cr, .slice u8.t u8.nt u8.ct] : Array Value) = #[.slice u11.s u11.ns u11.cs, .slice u11.g u11.ng u11.cg, .slice u11.b u11.nb u11.cb, .slice u11.r u11.nr u11.cr, .slice u11.t u11.nt u11.ct] := by
    have h1 : Value.agg #[.slice u8.s u8.ns u8.cs, .slice u8.g u8.ng u8.cg, .slice u8.b u8.nb u8.cb, .slice u8.r u8.nr u8.cr, .slice u8.t u8.nt u8.ct] = .agg #[.slice u11.s u11.ns u11.cs, .slice u11.g u11.ng u11.cg, .slice u11.b u11.nb u11.cb, .slice u11.r u11.nr u11.cr, .slice u11.t u11.nt u11.ct] := hx118
    simpa using h1
  have e8 : (#[.slice u8.s u8.ns u8.cs, .slice u8.g u8.ng u8.cg, .slice u8.b u8.nb u8.cb, .slice u8.r u8.nr u8.cr, .slice u8.t u8.nt u8.ct] : Array Value) = #[.slice gw.s gw.ns gw.cs, .slice gw.g gw.ng gw.cg, .slice gw.b gw.nb gw.cb, .slice gw.r gw.nr gw.cr, .slice gw.t gw.nt gw.ct] := by
    have h1 := hx87.symm.trans hx76
    simpa using h1
  rw [← e11, e8] at kB
  clear hx11 hx118 e11 hx76
  obtain ⟨u1, us1, hx1, -, -, -⟩ := hv1
  subst hx1
  simp only [putAll, Act.put, List.setIfInBounds_toArray, List.set_cons_succ, List.set_cons_zero]
  replace q0 := keepc hG q0
  replace q1 := keepc hG q1
  replace q2 := keepc hG q2
  replace q3 := keepc hG q3
  replace q4 := keepc hG q4
  replace p0 := keepc hG p0
  replace p1 := keepc hG p1
  replace p2 := keepc hG p2
  replace B0 := B0.trans (hG.mono B0.size)
  have hsz_w3 := hG.size
  clear hG hx87 e8
  have rW := ogw.rd
  have B3 : Below w3.heap.size w3 w3 := Below.refl _ _
  clear ogw
  have hw3 : Hid (w.heap.size + 1 < w3.heap.size) := Lib.hid (World.block_lt_of_cell? _ _ p0)
  have hyB : Hid (w.heap.size + 1 < yB ∧ yB < w3.heap.size) := Lib.hid ⟨by have := hw1.out; omega, kB.lt⟩
  clear hg_yB hsz_w3
  have y0 : w3.cell? ⟨yB, 0, none⟩ = some (.slice gw.s gw.ns gw.cs) := kB.cell 0 rfl
  have y1 : w3.cell? ⟨yB, 1, none⟩ = some (.slice gw.g gw.ng gw.cg) := kB.cell 1 rfl
  have y2 : w3.cell? ⟨yB, 2, none⟩ = some (.slice gw.b gw.nb gw.cb) := kB.cell 2 rfl
  have y3 : w3.cell? ⟨yB, 3, none⟩ = some (.slice gw.r gw.nr gw.cr) := kB.cell 3 rfl
  have y4 : w3.cell? ⟨yB, 4, none⟩ = some (.slice gw.t gw.nt gw.ct) := kB.cell 4 rfl
  clear kB
  go_wp2_with fail
  refine (toProg_any v p _ (hr.below B0) hs5.out HI.out).mono ?_
  rintro e w4 ⟨v2, vs2, rfl, o2, nd2, fr2, hb⟩
  have FR : Hid (∀ k ∈ fpP v2 vs2, w3.heap.size ≤ k ∧ k < w4.heap.size) := Lib.hid (fun k hk => ⟨fr2 k hk, o2.lt k hk⟩)
  have ND := Lib.hid nd2
  have h34 : Hid (w3.heap.size ≤ w4.heap.size) := Lib.hid hb.size
  clear nd2 fr2
  replace q0 := keepc hb q0
  replace q1 := keepc hb q1
  replace q2 := keepc hb q2
  replace q3 := keepc hb q3
  replace q4 := keepc hb q4
  replace p0 := keepc hb p0
  replace p1 := keepc hb p1
  replace p2 := keepc hb p2
  replace B0 := B0.trans (hb.mono B0.size)
  replace B3 := B3.trans (hb.mono B3.size)
  replace y0 := keepc hb y0
  replace y1 := keepc hb y1
  replace y2 := keepc hb y2
  replace y3 := keepc hb y3
  replace y4 := keepc hb y4
  clear hb
  have bA : Below w4.heap.size w4 (w4.alloc (.cells #[.slice v2.s v2.ns v2.cs, .slice v2.g v2.ng v2.cg, .slice v2.b v2.nb v2.cb, .slice v2.r v2.nr v2.cr, .slice v2.t v2.nt v2.ct] 26)) := (Below.refl _ _).alloc (Nat.le_refl _) _
  have kA : Blk (w4.alloc (.cells #[.slice v2.s v2.ns v2.cs, .slice v2.g v2.ng v2.cg, .slice v2.b v2.nb v2.cb, .slice v2.r v2.nr v2.cr, .slice v2.t v2.nt v2.ct] 26)) w4.heap.size #[.slice v2.s v2.ns v2.cs, .slice v2.g v2.ng v2.cg, .slice v2.b v2.nb v2.cb, .slice v2.r v2.nr v2.cr, .slice v2.t v2.nt v2.ct] 26 := Blk.new _ _ _
  have x0 : (w4.alloc (.cells #[.slice v2.s v2.ns v2.cs, .slice v2.g v2.ng v2.cg, .slice v2.b v2.nb v2.cb, .slice v2.r v2.nr v2.cr, .slice v2.t v2.nt v2.ct] 26)).cell? ⟨w4.heap.size, 0, none⟩ = some (.slice v2.s v2.ns v2.cs) := kA.cell 0 rfl
  have x1 : (w4.alloc (.cells #[.slice v2.s v2.ns v2.cs, .slice v2.g v2.ng v2.cg, .slice v2.b v2.nb v2.cb, .slice v2.r v2.nr v2.cr, .slice v2.t v2.nt v2.ct] 26)).cell? ⟨w4.heap.size, 1, none⟩ = some (.slice v2.g v2.ng v2.cg) := kA.cell 1 rfl
  have x2 : (w4.alloc (.cells #[.slice v2.s v2.ns v2.cs, .slice v2.g v2.ng v2.cg, .slice v2.b v2.nb v2.cb, .slice v2.r v2.nr v2.cr, .slice v2.t v2.nt v2.ct] 26)).cell? ⟨w4.heap.size, 2, none⟩ = some (.slice v2.b v2.nb v2.cb) := kA.cell 2 rfl
  have x3 : (w4.alloc (.cells #[.slice v2.s v2.ns v2.cs, .slice v2.g v2.ng v2.cg, .slice v2.b v2.nb v2.cb, .slice v2.r v2.nr v2.cr, .slice v2.t v2.nt v2.ct] 26)).cell? ⟨w4.heap.size, 3, none⟩ = some (.slice v2.r v2.nr v2.cr) := kA.cell 3 rfl
  have x4 : (w4.alloc (.cells #[.slice v2.s v2.ns v2.cs, .slice v2.g v2.ng v2.cg, .slice v2.b v2.nb v2.cb, .slice v2.r v2.nr v2.cr, .slice v2.t v2.nt v2.ct] 26)).cell? ⟨w4.heap.size, 4, none⟩ = some (.slice v2.t v2.nt v2.ct) := kA.cell 4 rfl
  replace q0 := keepc bA q0
  replace q1 := keepc bA q1
  replace q2 := keepc bA q2
  replace q3 := keepc bA q3
  replace q4 := keepc bA q4
  replace p0 := keepc bA p0
  replace p1 := keepc bA p1
  replace p2 := keepc bA p2
  replace B0 := B0.trans (bA.mono B0.size)
  replace B3 := B3.trans (bA.mono B3.size)
  replace y0 := keepc bA y0
  replace y1 := keepc bA y1
  replace y2 := keepc bA y2
  replace y3 := keepc bA y3
  replace y4 := keepc bA y4
  replace o2 := o2.below bA
  have hs_x : w4.heap.size < (w4.alloc (.cells #[.slice v2.s v2.ns v2.cs, .slice v2.g v2.ng v2.cg, .slice v2.b v2.nb v2.cb, .slice v2.r v2.nr v2.cr, .slice v2.t v2.nt v2.ct] 26)).heap.size := by simp
  clear kA bA
  go_upto_region 7 with fail
  obtain ⟨w4a, hw4a⟩ : ∃ w4a : World, w4a = (w4.alloc (.cells #[.slice v2.s v2.ns v2.cs, .slice v2.g v2.ng v2.cg, .slice v2.b v2.nb v2.cb, .slice v2.r v2.nr v2.cr, .slice v2.t v2.nt v2.ct] 26)) := ⟨_, rfl⟩
  rw [← hw4a] at hs_x q0 q1 q2 q3 q4 p0 p1 p2 B0 B3 y0 y1 y2 y3 y4 o2 x0 x1 x2 x3 x4 ⊢
  clear hw4a
  go_wp2
  refine wp_region_steps 11 (by kernel_rfl) (by kernel_rfl) [fun dz uz wz => uz = .agg #[.slice v2.s v2.ns v2.cs, .slice v2.g v2.ng v2.cg, .slice v2.b v2.nb v2.cb, .slice v2.r v2.nr v2.cr, .slice v2.t v2.nt v2.ct], fun dz uz wz => uz = .int .i64 a, fun dz uz wz => uz = .int .i64 b, fun dz uz wz => uz = .agg #[.int .i64 o.kind, .int .i64 o.on, .int .i64 o.arg], fun dz uz wz => uz = .agg #[.int .i64 o.kind, .int .i64 o.on, .int .i64 o.arg], fun dz uz wz => (∃ (u : PV) (us : List Value), uz = .tuple #[.agg #[.slice u.s u.ns u.cs, .slice u.g u.ng u.cg, .slice u.b u.nb u.cb, .slice u.r u.nr u.cr, .slice u.t u.nt u.ct], .bool sb] ∧ OwnP wz u us rp.cells ∧ (fpP u us).Nodup ∧ ∀ k ∈ fpP u us, w4a.heap.size ≤ k), fun dz uz wz => (∃ u : PV, uz = .tuple #[.agg #[.slice u.s u.ns u.cs, .slice u.g u.ng u.cg, .slice u.b u.nb u.cb, .slice u.r u.nr u.cr, .slice u.t u.nt u.ct], .bool sb] ∧ uz = (dz.getD 0 undef)), fun dz uz wz => (∃ u : PV, uz = .agg #[.slice u.s u.ns u.cs, .slice u.g u.ng u.cg, .slice u.b u.nb u.cb, .slice u.r u.nr u.cr, .slice u.t u.nt u.ct] ∧ (dz.getD 0 undef) = .tuple #[.agg #[.slice u.s u.ns u.cs, .slice u.g u.ng u.cg, .slice u.b u.nb u.cb, .slice u.r u.nr u.cr, .slice u.t u.nt u.ct], .bool sb]), fun dz uz wz => uz = .bool sb, fun dz uz wz => (∃ g : Nat, uz = .pointer (some ⟨g, 0, none⟩) ∧ (∃ c0 c1 c2 c3 c4 : Value, Blk wz g #[c0, c1, c2, c3, c4] 26) ∧ w4a.heap.size ≤ g), fun dz uz wz => (∃ (g : Nat) (u : PV), (dz.getD 0 undef) = .pointer (some ⟨g, 0, none⟩) ∧ (dz.getD 1 undef) = .agg #[.slice u.s u.ns u.cs, .slice u.g u.ng u.cg, .slice u.b u.nb u.cb, .slice u.r u.nr u.cr, .slice u.t u.nt u.ct] ∧ Blk wz g #[.slice u.s u.ns u.cs, .slice u.g u.ng u.cg, .slice u.b u.nb u.cb, .slice u.r u.nr u.cr, .slice u.t u.nt u.ct] 26)] (St1 10 (TP w4a.heap.size)) (fun _ _ => none) (fun _ w' => Below w4a.heap.size w4a w') (fun _ _ => (Below.refl _ _).drew) (st1_size (fun _ _ h => h.bel.size)) (stab1_of ⟨fun _ _ _ _ _ h => h, fun _ _ _ _ _ h => h, fun _ _ _ _ _ h => h, fun _ _ _ _ _ h => h, fun _ _ _ _ _ h => h, fun _ _ _ _ hb ⟨u, us, e, h, nd, fr⟩ => ⟨u, us, e, h.below hb, nd, fr⟩, fun _ _ _ _ _ h => h, fun _ _ _ _ _ h => h, fun _ _ _ _ _ h => h, fun _ _ _ _ hb ⟨g, e, ⟨c0, c1, c2, c3, c4, h⟩, hs⟩ => ⟨g, e, ⟨c0, c1, c2, c3, c4, h.below hb⟩, hs⟩, fun _ _ _ _ hb ⟨g, u, e1, e2, h⟩ => ⟨g, u, e1, e2, h.below hb⟩, trivial⟩ ⟨.inr (fun _ _ _ _ _ h => h), .inr (fun _ _ _ _ _ h => h), .inr (fun _ _ _ _ _ h => h), .inr (fun _ _ _ _ _ h => h), .inr (fun _ _ _ _ _ h => h), .inr (fun _ _ _ _ hT ⟨u, us, e, h, nd, fr⟩ => ⟨u, us, e, h.tp hT, nd, fr⟩), .inr (fun _ _ _ _ _ h => h), .inr (fun _ _ _ _ _ h => h), .inr (fun _ _ _ _ _ h => h), .inr (fun _ _ _ _ hT ⟨g, e, ⟨c0, c1, c2, c3, c4, h⟩, hs⟩ => ⟨g, e, hT.prg g _ _ _ _ _ h, hs⟩), .inl rfl, trivial⟩) ?_ ?_
  · simp only [List.take_succ_cons, List.take_zero]
    refine ⟨?_, ?_, ?_, ?_, ?_, ?_, ?_, ?_, ?_, ?_, ?_, trivial⟩
    · intro ρ w1 L hG hny hfr hd
      have fc : ∀ z, ρ (.const z) = z := fun _ => hfr _ rfl
      have ff : ∀ z, ρ (.func z) = .func (.func z) #[] #[] := fun _ => hfr _ rfl
      have f12 : ρ (.tmp 12) = .pointer (some ⟨w4.heap.size, 0, none⟩) := hfr _ rfl
      have x0 := keepc hG x0
      have x1 := keepc hG x1
      have x2 := keepc hG x2
      have x3 := keepc hG x3
      have x4 := keepc hG x4
      refine gives_val (u := .agg #[.slice v2.s v2.ns v2.cs, .slice v2.g v2.ng v2.cg, .slice v2.b v2.nb v2.cb, .slice v2.r v2.nr v2.cr, .slice v2.t v2.nt v2.ct]) (w' := w1) (by go_simp) ⟨st1_below (by decide) (Below.refl _ _), rfl, (fun _ hk => by cases hk), hG⟩
    · intro ρ w1 L hG hny hfr hd
      have fc : ∀ z, ρ (.const z) = z := fun _ => hfr _ rfl
      have ff : ∀ z, ρ (.func z) = .func (.func z) #[] #[] := fun _ => hfr _ rfl
      have f1 : ρ (.tmp 1) = .int .i64 a := hfr _ rfl
      refine gives_val (u := .int .i64 a) (w' := w1) (by go_simp) ⟨st1_below (by decide) (Below.refl _ _), rfl, (fun _ hk => by cases hk), hG⟩
    · intro ρ w1 L hG hny hfr hd
      have fc : ∀ z, ρ (.const z) = z := fun _ => hfr _ rfl
      have ff : ∀ z, ρ (.func z) = .func (.func z) #[] #[] := fun _ => hfr _ rfl
      have f2 : ρ (.tmp 2) = .int .i64 b := hfr _ rfl
      refine gives_val (u := .int .i64 b) (w' := w1) (by go_simp) ⟨st1_below (by decide) (Below.refl _ _), rfl, (fun _ hk => by cases hk), hG⟩
    · intro ρ w1 L hG hny hfr hd
      have fc : ∀ z, ρ (.const z) = z := fun _ => hfr _ rfl
      have ff : ∀ z, ρ (.func z) = .func (.func z) #[] #[] := fun _ => hfr _ rfl
      have f7 : ρ (.tmp 7) = .pointer (some ⟨w.heap.size + 1, 0, none⟩) := hfr _ rfl
      have p0 := keepc hG p0
      have p1 := keepc hG p1
      have p2 := keepc hG p2
      refine gives_val (u := .agg #[.int .i64 o.kind, .int .i64 o.on, .int .i64 o.arg]) (w' := w1) (by go_simp) ⟨st1_below (by decide) (Below.refl _ _), rfl, (fun _ hk => by cases hk), hG⟩
    · intro ρ w1 L hG hny hfr hd
      have fc : ∀ z, ρ (.const z) = z := fun _ => hfr _ rfl
      have ff : ∀ z, ρ (.func z) = .func (.func z) #[] #[] := fun _ => hfr _ rfl
      obtain ⟨d0, -⟩ := hd
      have d0 : (ρ (.tmp 41)) = .agg #[.int .i64 o.kind, .int .i64 o.on, .int .i64 o.arg] := d0
      refine gives_call (by go_simp; exact ⟨⟨rfl, rfl⟩, rfl⟩) ?_
      refine (toOp_any o _).mono ?_
      rintro e w5 ⟨rfl, hb⟩
      exact ⟨_, rfl, st1_below (by decide) (hb), rfl, (fun _ hk => by cases hk), hG.trans (hb.mono hG.size)⟩
    · intro ρ w1 L hG hny hfr hd
      have fc : ∀ z, ρ (.const z) = z := fun _ => hfr _ rfl
      have ff : ∀ z, ρ (.func z) = .func (.func z) #[] #[] := fun _ => hfr _ rfl
      obtain ⟨d0, d1, d2, d3, -⟩ := hd
      have d0 : (ρ (.tmp 38)) = .agg #[.slice v2.s v2.ns v2.cs, .slice v2.g v2.ng v2.cg, .slice v2.b v2.nb v2.cb, .slice v2.r v2.nr v2.cr, .slice v2.t v2.nt v2.ct] := d0
      have d1 : (ρ (.tmp 39)) = .int .i64 a := d1
      have d2 : (ρ (.tmp 40)) = .int .i64 b := d2
      have d3 : (ρ (.tmp 42)) = .agg #[.int .i64 o.kind, .int .i64 o.on, .int .i64 o.arg] := d3
      have o1 := o2.below hG
      refine gives_call (by go_simp; exact ⟨⟨rfl, rfl⟩, rfl⟩) ?_
      refine (implPutOp_any v2 p a b o _ o1.rd (HS.out.at hr o1.rd)).mono ?_
      rintro e w5 ⟨u, us, rfl, ou, nd, fr, hb⟩
      exact ⟨_, rfl, st1_below (by decide) (hb), ⟨u, us, by rw [← HSB.out]; rfl, by rw [← HRP.out]; exact ou, nd, fun k hk => Nat.le_trans hG.size (fr k hk)⟩, (fun _ hk => by cases hk), hG.trans (hb.mono hG.size)⟩
    · intro ρ w1 L hG hny hfr hd
      have fc : ∀ z, ρ (.const z) = z := fun _ => hfr _ rfl
      have ff : ∀ z, ρ (.func z) = .func (.func z) #[] #[] := fun _ => hfr _ rfl
      obtain ⟨d0, -⟩ := hd
      have d0 : (∃ (u : PV) (us : List Value), (ρ (.tmp 43)) = .tuple #[.agg #[.slice u.s u.ns u.cs, .slice u.g u.ng u.cg, .slice u.b u.nb u.cb, .slice u.r u.nr u.cr, .slice u.t u.nt u.ct], .bool sb] ∧ OwnP w1 u us rp.cells ∧ (fpP u us).Nodup ∧ ∀ k ∈ fpP u us, w4a.heap.size ≤ k) := d0
      obtain ⟨u, us, e6, -⟩ := d0
      refine gives_val (u := .tuple #[.agg #[.slice u.s u.ns u.cs, .slice u.g u.ng u.cg, .slice u.b u.nb u.cb, .slice u.r u.nr u.cr, .slice u.t u.nt u.ct], .bool sb]) (w' := w1) (by go_simp) ⟨st1_below (by decide) (Below.refl _ _), ⟨u, rfl, e6.symm⟩, (fun _ hk => by cases hk), hG⟩
    · intro ρ w1 L hG hny hfr hd
      have fc : ∀ z, ρ (.const z) = z := fun _ => hfr _ rfl
      have ff : ∀ z, ρ (.func z) = .func (.func z) #[] #[] := fun _ => hfr _ rfl
      obtain ⟨d0, -⟩ := hd
      have d0 : (∃ u : PV, (ρ (.tmp 37)) = .tuple #[.agg #[.slice u.s u.ns u.cs, .slice u.g u.ng u.cg, .slice u.b u.nb u.cb, .slice u.r u.nr u.cr, .slice u.t u.nt u.ct], .bool sb] ∧ (ρ (.tmp 37)) = (ρ (.tmp 43))) := d0
      obtain ⟨u, e7, -⟩ := d0
      refine gives_val (u := .agg #[.slice u.s u.ns u.cs, .slice u.g u.ng u.cg, .slice u.b u.nb u.cb, .slice u.r u.nr u.cr, .slice u.t u.nt u.ct]) (w' := w1) (by go_simp) ⟨st1_below (by decide) (Below.refl _ _), ⟨u, rfl, e7⟩, (fun _ hk => by cases hk), hG⟩
    · intro ρ w1 L hG hny hfr hd
      have fc : ∀ z, ρ (.const z) = z := fun _ => hfr _ rfl
      have ff : ∀ z, ρ (.func z) = .func (.func z) #[] #[] := fun _ => hfr _ rfl
      obtain ⟨d0, -⟩ := hd
      have d0 : (∃ u : PV, (ρ (.tmp 37)) = .tuple #[.agg #[.slice u.s u.ns u.cs, .slice u.g u.ng u.cg, .slice u.b u.nb u.cb, .slice u.r u.nr u.cr, .slice u.t u.nt u.ct], .bool sb] ∧ (ρ (.tmp 37)) = (ρ (.tmp 43))) := d0
      obtain ⟨u, e7, -⟩ := d0
      refine gives_val (u := .bool sb) (w' := w1) (by go_simp) ⟨st1_below (by decide) (Below.refl _ _), rfl, (fun _ hk => by cases hk), hG⟩
    · intro ρ w1 L hG hny hfr hd
      have fc : ∀ z, ρ (.const z) = z := fun _ => hfr _ rfl
      have ff : ∀ z, ρ (.func z) = .func (.func z) #[] #[] := fun _ => hfr _ rfl
      refine gives_val (u := .pointer (some ⟨w1.heap.size, 0, none⟩)) (w' := w1.alloc (.cells #[.slice none 0 0, .slice none 0 0, .slice none 0 0, .slice none 0 0, .slice none 0 0] 26)) (by go_simp) ⟨st1_below (by decide) ((Below.refl _ _).alloc (Nat.le_refl _) _), ⟨_, rfl, ⟨_, _, _, _, _, Blk.new _ _ _⟩, hG.size⟩, (fun _ hk => by cases hk), hG.alloc hG.size _⟩
    · intro ρ w1 L hG hny hfr hd
      have fc : ∀ z, ρ (.const z) = z := fun _ => hfr _ rfl
      have ff : ∀ z, ρ (.func z) = .func (.func z) #[] #[] := fun _ => hfr _ rfl
      obtain ⟨d0, d1, -⟩ := hd
      have d0 : (∃ g : Nat, (ρ (.tmp 13)) = .pointer (some ⟨g, 0, none⟩) ∧ (∃ c0 c1 c2 c3 c4 : Value, Blk w1 g #[c0, c1, c2, c3, c4] 26) ∧ w4a.heap.size ≤ g) := d0
      have d1 : (∃ u : PV, (ρ (.tmp 44)) = .agg #[.slice u.s u.ns u.cs, .slice u.g u.ng u.cg, .slice u.b u.nb u.cb, .slice u.r u.nr u.cr, .slice u.t u.nt u.ct] ∧ (ρ (.tmp 37)) = .tuple #[.agg #[.slice u.s u.ns u.cs, .slice u.g u.ng u.cg, .slice u.b u.nb u.cb, .slice u.r u.nr u.cr, .slice u.t u.nt u.ct], .bool sb]) := d1
      obtain ⟨g, e10, ⟨c0, c1, c2, c3, c4, hB⟩, hgs⟩ := d0
      obtain ⟨u, e8, -⟩ := d1
      have z0 := hB.cell 0 rfl
      have z1 := hB.cell 1 rfl
      have z2 := hB.cell 2 rfl
      have z3 := hB.cell 3 rfl
      have z4 := hB.cell 4 rfl
      have y0 := hB.fz 0
      have y1 := hB.fz 1
      have y2 := hB.fz 2
      have y3 := hB.fz 3
      have y4 := hB.fz 4
      have hst := TP.store (B := w4a.heap.size) (a0 := .slice u.s u.ns u.cs) (a1 := .slice u.g u.ng u.cg) (a2 := .slice u.b u.nb u.cb) (a3 := .slice u.r u.nr u.cr) (a4 := .slice u.t u.nt u.ct) hB hgs
      refine gives_skip (w' := (((((w1.setCell ⟨g, 0, none⟩ (.slice u.s u.ns u.cs)).setCell ⟨g, 1, none⟩ (.slice u.g u.ng u.cg)).setCell ⟨g, 2, none⟩ (.slice u.b u.nb u.cb)).setCell ⟨g, 3, none⟩ (.slice u.r u.nr u.cr)).setCell ⟨g, 4, none⟩ (.slice u.t u.nt u.ct))) (by go_simp) ⟨st1_own hst.1, ⟨g, u, e10, e8, hst.2⟩, (fun _ hk => by cases hk), hG.trans hst.1.bel⟩
  intro vs w5 L hG hlen hall hap hbd
  obtain ⟨xv0, vs0, rfl, hl0⟩ := len_cons hlen
  obtain ⟨xv1, vs1, rfl, hl1⟩ := len_cons hl0
  obtain ⟨xv2, vs2, rfl, hl2⟩ := len_cons hl1
  obtain ⟨xv3, vs3, rfl, hl3⟩ := len_cons hl2
  obtain ⟨xv4, vs4, rfl, hl4⟩ := len_cons hl3
  obtain ⟨xv5, vs5, rfl, hl5⟩ := len_cons hl4
  obtain ⟨xv6, vs6, rfl, hl6⟩ := len_cons hl5
  obtain ⟨xv7, vs7, rfl, hl7⟩ := len_cons hl6
  obtain ⟨xv8, vs8, rfl, hl8⟩ := len_cons hl7
  obtain ⟨xv9, vs9, rfl, hl9⟩ := len_cons hl8
  obtain ⟨xv10, vs10, rfl, hl10⟩ := len_cons hl9
  obtain rfl := len_nil hl10
  clear hlen hl0 hl1 hl2 hl3 hl4 hl5 hl6 hl7 hl8 hl9 hl10
  simp only [List.take_succ_cons, List.take_zero, List.drop_succ_cons, List.drop_zero] at hall ⊢
  obtain ⟨t0', t1', t2', t3', t4', t5', t6', t7', t8', t9', t10', -⟩ := hall
  have hv0 : xv0 = .agg #[.slice v2.s v2.ns v2.cs, .slice v2.g v2.ng v2.cg, .slice v2.b v2.nb v2.cb, .slice v2.r v2.nr v2.cr, .slice v2.t v2.nt v2.ct] := t0'
  have hv1 : xv1 = .int .i64 a := t1'
  have hv2 : xv2 = .int .i64 b := t2'
  have hv3 : xv3 = .agg #[.int .i64 o.kind, .int .i64 o.on, .int .i64 o.arg] := t3'
  have hv4 : xv4 = .agg #[.int .i64 o.kind, .int .i64 o.on, .int .i64 o.arg] := t4'
  have hv5 : (∃ (u : PV) (us : List Value), xv5 = .tuple #[.agg #[.slice u.s u.ns u.cs, .slice u.g u.ng u.cg, .slice u.b u.nb u.cb, .slice u.r u.nr u.cr, .slice u.t u.nt u.ct], .bool sb] ∧ OwnP w5 u us rp.cells ∧ (fpP u us).Nodup ∧ ∀ k ∈ fpP u us, w4a.heap.size ≤ k) := t5'
  have hv6 : (∃ u : PV, xv6 = .tuple #[.agg #[.slice u.s u.ns u.cs, .slice u.g u.ng u.cg, .slice u.b u.nb u.cb, .slice u.r u.nr u.cr, .slice u.t u.nt u.ct], .bool sb] ∧ xv6 = xv5) := t6'
  have hv7 : (∃ u : PV, xv7 = .agg #[.slice u.s u.ns u.cs, .slice u.g u.ng u.cg, .slice u.b u.nb u.cb, .slice u.r u.nr u.cr, .slice u.t u.nt u.ct] ∧ xv6 = .tuple #[.agg #[.slice u.s u.ns u.cs, .slice u.g u.ng u.cg, .slice u.b u.nb u.cb, .slice u.r u.nr u.cr, .slice u.t u.nt u.ct], .bool sb]) := t7'
  have hv8 : xv8 = .bool sb := t8'
  have hv9 : (∃ g : Nat, xv9 = .pointer (some ⟨g, 0, none⟩) ∧ (∃ c0 c1 c2 c3 c4 : Value, Blk w5 g #[c0, c1, c2, c3, c4] 26) ∧ w4a.heap.size ≤ g) := t9'
  have hv10 : (∃ (g : Nat) (u : PV), xv9 = .pointer (some ⟨g, 0, none⟩) ∧ xv7 = .agg #[.slice u.s u.ns u.cs, .slice u.g u.ng u.cg, .slice u.b u.nb u.cb, .slice u.r u.nr u.cr, .slice u.t u.nt u.ct] ∧ Blk w5 g #[.slice u.s u.ns u.cs, .slice u.g u.ng u.cg, .slice u.b u.nb u.cb, .slice u.r u.nr u.cr, .slice u.t u.nt u.ct] 26) := t10'
  clear t0' t1' t2' t3' t4' t5' t6' t7' t8' t9' t10'
  clear hap hbd
  subst hv0 hv1 hv2 hv3 hv4 hv8
  obtain ⟨u, us, hx6, ou, ndu, fru⟩ := hv5
  obtain ⟨u7, hx7, hx76⟩ := hv6
  obtain ⟨u8, hx8, hx87⟩ := hv7
  obtain ⟨zB, hx10, -, hg_zB⟩ := hv9
  obtain ⟨g11, u11, hx11, hx118, kB⟩ := hv10
  subst hx6
  subst hx7
  subst hx8
  subst hx10
  obtain rfl : zB = g11 := by simpa using hx11
  have e11 : (#[.slice u8.s u8.ns u8.cs, .slice u8.g u8.ng u8.cg, .slice u8.b u8.nb u8.cb, .slice u8.r u8.nr u8.cr, .slice u8.t u8.nt u8.ct] : Array Value) = #[.slice u11.s u11.ns u11.cs, .slice u11.g u11.ng u11.cg, .slice u11.b u11.nb u11.cb, .slice u11.r u11.nr u11.cr, .slice u11.t u11.nt u11.ct] := by
    have h1 : Value.agg #[.slice u8.s u8.ns u8.cs, .slice u8.g u8.ng u8.cg, .slice u8.b u8.nb u8.cb, .slice u8.r u8.nr u8.cr, .slice u8.t u8.nt u8.ct] = .agg #[.slice u11.s u11.ns u11.cs, .slice u11.g u11.ng u11.cg, .slice u11.b u11.nb u11.cb, .slice u11.r u11.nr u11.cr, .slice u11.t u11.nt u11.ct] := hx118
    simpa using h1
  have e8 : (#[.slice u8.s u8.ns u8.cs, .slice u8.g u8.ng u8.cg, .slice u8.b u8.nb u8.cb, .slice u8.r u8.nr u8.cr, .slice u8.t u8.nt u8.ct] : Array Value) = #[.slice u.s u.ns u.cs, .slice u.g u.ng u.cg, .slice u.b u.nb u.cb, .slice u.r u.nr u.cr, .slice u.t u.nt u.ct] := by
    have h1 := hx87.symm.trans hx76
    simpa using h1
  rw [← e11, e8] at kB
  clear hx11 hx118 e11 hx76
  simp only [putAll, Act.put, List.setIfInBounds_toArray, List.set_cons_succ, List.set_cons_zero]
  replace q0 := keepc hG q0
  replace q1 := keepc hG q1
  replace q2 := keepc hG q2
  replace q3 := keepc hG q3
  replace q4 := keepc hG q4
  replace p0 := keepc hG p0
  replace p1 := keepc hG p1
  replace p2 := keepc hG p2
  replace B0 := B0.trans (hG.mono B0.size)
  replace B3 := B3.trans (hG.mono B3.size)
  replace y0 := keepc hG y0
  replace y1 := keepc hG y1
  replace y2 := keepc hG y2
  replace y3 := keepc hG y3
  replace y4 := keepc hG y4
  replace o2 := o2.below hG
  replace x0 := keepc hG x0
  replace x1 := keepc hG x1
  replace x2 := keepc hG x2
  replace x3 := keepc hG x3
  replace x4 := keepc hG x4
  have hsz_w5 := hG.size
  clear hG hx87 e8
  have FU : Hid (∀ k ∈ fpP u us, w4.heap.size < k ∧ k < w5.heap.size) := Lib.hid (fun k hk => ⟨Nat.lt_of_lt_of_le hs_x (fru k hk), ou.lt k hk⟩)
  have NDU := Lib.hid ndu
  have hzB : Hid (w4.heap.size < zB ∧ zB < w5.heap.size ∧ zB ∉ fpP u us) := Lib.hid ⟨by omega, kB.lt, ou.not_prog kB⟩
  have h45 : Hid (w4.heap.size < w5.heap.size) := Lib.hid (by omega)
  clear ndu fru hs_x hg_zB hsz_w5
  have z0 : w5.cell? ⟨zB, 0, none⟩ = some (.slice u.s u.ns u.cs) := kB.cell 0 rfl
  have z1 : w5.cell? ⟨zB, 1, none⟩ = some (.slice u.g u.ng u.cg) := kB.cell 1 rfl
  have z2 : w5.cell? ⟨zB, 2, none⟩ = some (.slice u.b u.nb u.cb) := kB.cell 2 rfl
  have z3 : w5.cell? ⟨zB, 3, none⟩ = some (.slice u.r u.nr u.cr) := kB.cell 3 rfl
  have z4 : w5.cell? ⟨zB, 4, none⟩ = some (.slice u.t u.nt u.ct) := kB.cell 4 rfl
  clear kB
  go_wp2_with fail
  refine (eqProg_yes u gw rp _ ou.rd (rW.below B3) (HF.out.small.at ou.rd)).mono ?_
  rintro e w6 ⟨rfl, hb⟩
  replace q0 := keepc hb q0
  replace q1 := keepc hb q1
  replace q2 := keepc hb q2
  replace q3 := keepc hb q3
  replace q4 := keepc hb q4
  replace p0 := keepc hb p0
  replace p1 := keepc hb p1
  replace p2 := keepc hb p2
  replace B0 := B0.trans (hb.mono B0.size)
  replace B3 := B3.trans (hb.mono B3.size)
  replace y0 := keepc hb y0
  replace y1 := keepc hb y1
  replace y2 := keepc hb y2
  replace y3 := keepc hb y3
  replace y4 := keepc hb y4
  replace o2 := o2.below hb
  replace x0 := keepc hb x0
  replace x1 := keepc hb x1
  replace x2 := keepc hb x2
  replace x3 := keepc hb x3
  replace x4 := keepc hb x4
  replace z0 := keepc hb z0
  replace z1 := keepc hb z1
  replace z2 := keepc hb z2
  replace z3 := keepc hb z3
  replace z4 := keepc hb z4
  replace ou := ou.below hb
  clear hb
  obtain ⟨B, hB⟩ : ∃ B, B = w4.heap.size := ⟨_, rfl⟩
  rw [← hB] at x0 x1 x2 x3 x4
  rw [← hB]
  have HB4 := Lib.hid hB
  clear hB
  have hS : ∀ w', Below w6.heap.size w6 w' → (((w'.cell? ⟨w.heap.size, 0, none⟩ = some (.slice v.s v.ns v.cs) ∧ w'.cell? ⟨w.heap.size, 1, none⟩ = some (.slice v.g v.ng v.cg) ∧ w'.cell? ⟨w.heap.size, 2, none⟩ = some (.slice v.b v.nb v.cb) ∧ w'.cell? ⟨w.heap.size, 3, none⟩ = some (.slice v.r v.nr v.cr) ∧ w'.cell? ⟨w.heap.size, 4, none⟩ = some (.slice v.t v.nt v.ct)) ∧ w'.cell? ⟨B, 0, none⟩ = some (.slice v2.s v2.ns v2.cs) ∧ w'.cell? ⟨B, 1, none⟩ = some (.slice v2.g v2.ng v2.cg) ∧ w'.cell? ⟨B, 2, none⟩ = some (.slice v2.b v2.nb v2.cb) ∧ w'.cell? ⟨B, 3, none⟩ = some (.slice v2.r v2.nr v2.cr) ∧ w'.cell? ⟨B, 4, none⟩ = some (.slice v2.t v2.nt v2.ct)) ∧ Below w6.heap.size w6 w') := fun w' hb => ⟨⟨⟨keepc hb q0, keepc hb q1, keepc hb q2, keepc hb q3, keepc hb q4⟩, keepc hb x0, keepc hb x1, keepc hb x2, keepc hb x3, keepc hb x4⟩, hb⟩
  go_wp2
  go_region_held3 (fun w' => (((w'.cell? ⟨w.heap.size, 0, none⟩ = some (.slice v.s v.ns v.cs) ∧ w'.cell? ⟨w.heap.size, 1, none⟩ = some (.slice v.g v.ng v.cg) ∧ w'.cell? ⟨w.heap.size, 2, none⟩ = some (.slice v.b v.nb v.cb) ∧ w'.cell? ⟨w.heap.size, 3, none⟩ = some (.slice v.r v.nr v.cr) ∧ w'.cell? ⟨w.heap.size, 4, none⟩ = some (.slice v.t v.nt v.ct)) ∧ w'.cell? ⟨B, 0, none⟩ = some (.slice v2.s v2.ns v2.cs) ∧ w'.cell? ⟨B, 1, none⟩ = some (.slice v2.g v2.ng v2.cg) ∧ w'.cell? ⟨B, 2, none⟩ = some (.slice v2.b v2.nb v2.cb) ∧ w'.cell? ⟨B, 3, none⟩ = some (.slice v2.r v2.nr v2.cr) ∧ w'.cell? ⟨B, 4, none⟩ = some (.slice v2.t v2.nt v2.ct)) ∧ Below w6.heap.size w6 w')) (first | exact hS _ ((Below.refl _ _).drew) | exact hS _ (keepb (by assumption) (by assumption))) (first | (go_at_call 18; refine (toProg_any v p _ (hr.below (B0.trans ((And.right (by assumption : _ ∧ Below w6.heap.size w6 _)).mono B0.size))) hs5.out HI.out).mono ?_; rintro e w' ⟨v3, vs3, rfl, o3, nd3, fr3, hb3⟩) | (go_at_call 21; refine (eqProg_yes v2 v3 p _ (o2.rd.below (And.right (by assumption : _ ∧ Below w6.heap.size w6 _))) o3.rd (HS.out.at hr o2.rd)).mono ?_; rintro e w' ⟨rfl, hb4⟩))
  rename_i w7 hSw
  have hb := hSw.2
  clear hSw hS
  replace q0 := keepc hb q0
  replace q1 := keepc hb q1
  replace q2 := keepc hb q2
  replace q3 := keepc hb q3
  replace q4 := keepc hb q4
  replace p0 := keepc hb p0
  replace p1 := keepc hb p1
  replace p2 := keepc hb p2
  replace B0 := B0.trans (hb.mono B0.size)
  replace B3 := B3.trans (hb.mono B3.size)
  replace y0 := keepc hb y0
  replace y1 := keepc hb y1
  replace y2 := keepc hb y2
  replace y3 := keepc hb y3
  replace y4 := keepc hb y4
  replace o2 := o2.below hb
  replace x0 := keepc hb x0
  replace x1 := keepc hb x1
  replace x2 := keepc hb x2
  replace x3 := keepc hb x3
  replace x4 := keepc hb x4
  replace z0 := keepc hb z0
  replace z1 := keepc hb z1
  replace z2 := keepc hb z2
  replace z3 := keepc hb z3
  replace z4 := keepc hb z4
  replace ou := ou.below hb
  clear hb
  have h5 : Hid (v2.ns ≤ 1048576 ∧ v2.ng ≤ 1048576 ∧ v2.nb ≤ 1048576 ∧ v2.nr ≤ 1048576 ∧ v2.nt ≤ 1048576) := Lib.hid (by have := HS.out.at hr o2.rd; exact ⟨this.ls, this.lg, this.lb, this.lr, this.lt⟩)
  have h5u : Hid (u.ns ≤ 1048576 ∧ u.ng ≤ 1048576 ∧ u.nb ≤ 1048576 ∧ u.nr ≤ 1048576 ∧ u.nt ≤ 1048576) := Lib.hid (by have := HF.out.small.at ou.rd; exact ⟨this.ls, this.lg, this.lb, this.lr, this.lt⟩)
  have hC1 := HC.out.1
  have hR1 := HF.out.size
  go_wp2_with fail
  refine (markProg_any v2 vs2 p.cells 1 _ o2 ND.out (by omega) (by omega) h5.out HC.out.2).mono ?_
  rintro e w8 ⟨rfl, _, T⟩
  replace ou := ou.touch T (fun k h1 h2 => by have := FU.out k h1; have := FR.out k h2; omega)
  clear o2
  replace q0 := cell_touch T q0 (fun h => by first | exact absurd h hzB.out.2.2 | (have := FR.out w.heap.size h; have := hw3.out; have := h34.out; have := h45.out; have := hyB.out; have := hzB.out.1; have := HB4.out; omega))
  replace q1 := cell_touch T q1 (fun h => by first | exact absurd h hzB.out.2.2 | (have := FR.out w.heap.size h; have := hw3.out; have := h34.out; have := h45.out; have := hyB.out; have := hzB.out.1; have := HB4.out; omega))
  replace q2 := cell_touch T q2 (fun h => by first | exact absurd h hzB.out.2.2 | (have := FR.out w.heap.size h; have := hw3.out; have := h34.out; have := h45.out; have := hyB.out; have := hzB.out.1; have := HB4.out; omega))
  replace q3 := cell_touch T q3 (fun h => by first | exact absurd h hzB.out.2.2 | (have := FR.out w.heap.size h; have := hw3.out; have := h34.out; have := h45.out; have := hyB.out; have := hzB.out.1; have := HB4.out; omega))
  replace q4 := cell_touch T q4 (fun h => by first | exact absurd h hzB.out.2.2 | (have := FR.out w.heap.size h; have := hw3.out; have := h34.out; have := h45.out; have := hyB.out; have := hzB.out.1; have := HB4.out; omega))
  replace p0 := cell_touch T p0 (fun h => by first | exact absurd h hzB.out.2.2 | (have := FR.out (w.heap.size + 1) h; have := hw3.out; have := h34.out; have := h45.out; have := hyB.out; have := hzB.out.1; have := HB4.out; omega))
  replace p1 := cell_touch T p1 (fun h => by first | exact absurd h hzB.out.2.2 | (have := FR.out (w.heap.size + 1) h; have := hw3.out; have := h34.out; have := h45.out; have := hyB.out; have := hzB.out.1; have := HB4.out; omega))
  replace p2 := cell_touch T p2 (fun h => by first | exact absurd h hzB.out.2.2 | (have := FR.out (w.heap.size + 1) h; have := hw3.out; have := h34.out; have := h45.out; have := hyB.out; have := hzB.out.1; have := HB4.out; omega))
  replace B0 := B0.trans (T.below B0.size (fun k hk => by have := FR.out k hk; have := hw3.out; have := h34.out; have := h45.out; omega))
  replace B3 := B3.trans (T.below B3.size (fun k hk => by have := FR.out k hk; have := hw3.out; have := h34.out; have := h45.out; omega))
  replace y0 := cell_touch T y0 (fun h => by first | exact absurd h hzB.out.2.2 | (have := FR.out yB h; have := hw3.out; have := h34.out; have := h45.out; have := hyB.out; have := hzB.out.1; have := HB4.out; omega))
  replace y1 := cell_touch T y1 (fun h => by first | exact absurd h hzB.out.2.2 | (have := FR.out yB h; have := hw3.out; have := h34.out; have := h45.out; have := hyB.out; have := hzB.out.1; have := HB4.out; omega))
  replace y2 := cell_touch T y2 (fun h => by first | exact absurd h hzB.out.2.2 | (have := FR.out yB h; have := hw3.out; have := h34.out; have := h45.out; have := hyB.out; have := hzB.out.1; have := HB4.out; omega))
  replace y3 := cell_touch T y3 (fun h => by first | exact absurd h hzB.out.2.2 | (have := FR.out yB h; have := hw3.out; have := h34.out; have := h45.out; have := hyB.out; have := hzB.out.1; have := HB4.out; omega))
  replace y4 := cell_touch T y4 (fun h => by first | exact absurd h hzB.out.2.2 | (have := FR.out yB h; have := hw3.out; have := h34.out; have := h45.out; have := hyB.out; have := hzB.out.1; have := HB4.out; omega))
  replace z0 := cell_touch T z0 (fun h => by first | exact absurd h hzB.out.2.2 | (have := FR.out zB h; have := hw3.out; have := h34.out; have := h45.out; have := hyB.out; have := hzB.out.1; have := HB4.out; omega))
  replace z1 := cell_touch T z1 (fun h => by first | exact absurd h hzB.out.2.2 | (have := FR.out zB h; have := hw3.out; have := h34.out; have := h45.out; have := hyB.out; have := hzB.out.1; have := HB4.out; omega))
  replace z2 := cell_touch T z2 (fun h => by first | exact absurd h hzB.out.2.2 | (have := FR.out zB h; have := hw3.out; have := h34.out; have := h45.out; have := hyB.out; have := hzB.out.1; have := HB4.out; omega))
  replace z3 := cell_touch T z3 (fun h => by first | exact absurd h hzB.out.2.2 | (have := FR.out zB h; have := hw3.out; have := h34.out; have := h45.out; have := hyB.out; have := hzB.out.1; have := HB4.out; omega))
  replace z4 := cell_touch T z4 (fun h => by first | exact absurd h hzB.out.2.2 | (have := FR.out zB h; have := hw3.out; have := h34.out; have := h45.out; have := hyB.out; have := hzB.out.1; have := HB4.out; omega))
  have hk0 : decide ((1 + (p.cells.size : Int)) < 0) = false := decide_eq_false (by omega)
  clear T x0 x1 x2 x3 x4
  go_wp2_with fail
  refine (eqProg_yes u gw rp _ ou.rd (rW.below B3) (HF.out.small.at ou.rd)).mono ?_
  rintro e w9 ⟨rfl, hb⟩
  replace q0 := keepc hb q0
  replace q1 := keepc hb q1
  replace q2 := keepc hb q2
  replace q3 := keepc hb q3
  replace q4 := keepc hb q4
  replace p0 := keepc hb p0
  replace p1 := keepc hb p1
  replace p2 := keepc hb p2
  replace B0 := B0.trans (hb.mono B0.size)
  replace B3 := B3.trans (hb.mono B3.size)
  replace y0 := keepc hb y0
  replace y1 := keepc hb y1
  replace y2 := keepc hb y2
  replace y3 := keepc hb y3
  replace y4 := keepc hb y4
  replace z0 := keepc hb z0
  replace z1 := keepc hb z1
  replace z2 := keepc hb z2
  replace z3 := keepc hb z3
  replace z4 := keepc hb z4
  replace ou := ou.below hb
  clear hb
  go_wp2_with fail
  refine (markProg_any u us rp.cells 1 _ ou NDU.out (by omega) (by omega) h5u.out HF.out.rows).mono ?_
  rintro e w10 ⟨rfl, ou1, T⟩
  clear ou
  replace q0 := cell_touch T q0 (fun h => by first | exact absurd h hzB.out.2.2 | (have := FU.out w.heap.size h; have := hw3.out; have := h34.out; have := h45.out; have := hyB.out; have := hzB.out.1; have := HB4.out; omega))
  replace q1 := cell_touch T q1 (fun h => by first | exact absurd h hzB.out.2.2 | (have := FU.out w.heap.size h; have := hw3.out; have := h34.out; have := h45.out; have := hyB.out; have := hzB.out.1; have := HB4.out; omega))
  replace q2 := cell_touch T q2 (fun h => by first | exact absurd h hzB.out.2.2 | (have := FU.out w.heap.size h; have := hw3.out; have := h34.out; have := h45.out; have := hyB.out; have := hzB.out.1; have := HB4.out; omega))
  replace q3 := cell_touch T q3 (fun h => by first | exact absurd h hzB.out.2.2 | (have := FU.out w.heap.size h; have := hw3.out; have := h34.out; have := h45.out; have := hyB.out; have := hzB.out.1; have := HB4.out; omega))
  replace q4 := cell_touch T q4 (fun h => by first | exact absurd h hzB.out.2.2 | (have := FU.out w.heap.size h; have := hw3.out; have := h34.out; have := h45.out; have := hyB.out; have := hzB.out.1; have := HB4.out; omega))
  replace p0 := cell_touch T p0 (fun h => by first | exact absurd h hzB.out.2.2 | (have := FU.out (w.heap.size + 1) h; have := hw3.out; have := h34.out; have := h45.out; have := hyB.out; have := hzB.out.1; have := HB4.out; omega))
  replace p1 := cell_touch T p1 (fun h => by first | exact absurd h hzB.out.2.2 | (have := FU.out (w.heap.size + 1) h; have := hw3.out; have := h34.out; have := h45.out; have := hyB.out; have := hzB.out.1; have := HB4.out; omega))
  replace p2 := cell_touch T p2 (fun h => by first | exact absurd h hzB.out.2.2 | (have := FU.out (w.heap.size + 1) h; have := hw3.out; have := h34.out; have := h45.out; have := hyB.out; have := hzB.out.1; have := HB4.out; omega))
  replace B0 := B0.trans (T.below B0.size (fun k hk => by have := FU.out k hk; have := hw3.out; have := h34.out; have := h45.out; omega))
  replace B3 := B3.trans (T.below B3.size (fun k hk => by have := FU.out k hk; have := hw3.out; have := h34.out; have := h45.out; omega))
  replace y0 := cell_touch T y0 (fun h => by first | exact absurd h hzB.out.2.2 | (have := FU.out yB h; have := hw3.out; have := h34.out; have := h45.out; have := hyB.out; have := hzB.out.1; have := HB4.out; omega))
  replace y1 := cell_touch T y1 (fun h => by first | exact absurd h hzB.out.2.2 | (have := FU.out yB h; have := hw3.out; have := h34.out; have := h45.out; have := hyB.out; have := hzB.out.1; have := HB4.out; omega))
  replace y2 := cell_touch T y2 (fun h => by first | exact absurd h hzB.out.2.2 | (have := FU.out yB h; have := hw3.out; have := h34.out; have := h45.out; have := hyB.out; have := hzB.out.1; have := HB4.out; omega))
  replace y3 := cell_touch T y3 (fun h => by first | exact absurd h hzB.out.2.2 | (have := FU.out yB h; have := hw3.out; have := h34.out; have := h45.out; have := hyB.out; have := hzB.out.1; have := HB4.out; omega))
  replace y4 := cell_touch T y4 (fun h => by first | exact absurd h hzB.out.2.2 | (have := FU.out yB h; have := hw3.out; have := h34.out; have := h45.out; have := hyB.out; have := hzB.out.1; have := HB4.out; omega))
  replace z0 := cell_touch T z0 (fun h => by first | exact absurd h hzB.out.2.2 | (have := FU.out zB h; have := hw3.out; have := h34.out; have := h45.out; have := hyB.out; have := hzB.out.1; have := HB4.out; omega))
  replace z1 := cell_touch T z1 (fun h => by first | exact absurd h hzB.out.2.2 | (have := FU.out zB h; have := hw3.out; have := h34.out; have := h45.out; have := hyB.out; have := hzB.out.1; have := HB4.out; omega))
  replace z2 := cell_touch T z2 (fun h => by first | exact absurd h hzB.out.2.2 | (have := FU.out zB h; have := hw3.out; have := h34.out; have := h45.out; have := hyB.out; have := hzB.out.1; have := HB4.out; omega))
  replace z3 := cell_touch T z3 (fun h => by first | exact absurd h hzB.out.2.2 | (have := FU.out zB h; have := hw3.out; have := h34.out; have := h45.out; have := hyB.out; have := hzB.out.1; have := HB4.out; omega))
  replace z4 := cell_touch T z4 (fun h => by first | exact absurd h hzB.out.2.2 | (have := FU.out zB h; have := hw3.out; have := h34.out; have := h45.out; have := hyB.out; have := hzB.out.1; have := HB4.out; omega))
  have hk1 : decide ((1 + (rp.cells.size : Int)) < 0) = false := decide_eq_false (by omega)
  clear T
  go_wp2_with fail
  refine (heldProg_yes u us rp.cells 1 _ ou1 (by omega) (by omega) h5u.out HF.out.rows).mono ?_
  rintro e w11 ⟨rfl, hb⟩
  replace q0 := keepc hb q0
  replace q1 := keepc hb q1
  replace q2 := keepc hb q2
  replace q3 := keepc hb q3
  replace q4 := keepc hb q4
  replace p0 := keepc hb p0
  replace p1 := keepc hb p1
  replace p2 := keepc hb p2
  replace B0 := B0.trans (hb.mono B0.size)
  replace B3 := B3.trans (hb.mono B3.size)
  replace y0 := keepc hb y0
  replace y1 := keepc hb y1
  replace y2 := keepc hb y2
  replace y3 := keepc hb y3
  replace y4 := keepc hb y4
  replace z0 := keepc hb z0
  replace z1 := keepc hb z1
  replace z2 := keepc hb z2
  replace z3 := keepc hb z3
  replace z4 := keepc hb z4
  replace ou1 := ou1.below hb
  clear hb
  go_wp2
  refine wp_region_steps 12 (by kernel_rfl) (by kernel_rfl) [fun dz uz wz => uz = .agg #[.slice v.s v.ns v.cs, .slice v.g v.ng v.cg, .slice v.b v.nb v.cb, .slice v.r v.nr v.cr, .slice v.t v.nt v.ct], fun dz uz wz => (∃ (u : PV) (us : List Value), uz = .agg #[.slice u.s u.ns u.cs, .slice u.g u.ng u.cg, .slice u.b u.nb u.cb, .slice u.r u.nr u.cr, .slice u.t u.nt u.ct] ∧ OwnP wz u us p.cells ∧ (fpP u us).Nodup ∧ ∀ k ∈ fpP u us, w11.heap.size ≤ k), fun dz uz wz => uz = .int .i64 a, fun dz uz wz => uz = .int .i64 b, fun dz uz wz => uz = .agg #[.int .i64 o.kind, .int .i64 o.on, .int .i64 o.arg], fun dz uz wz => uz = .agg #[.int .i64 o.kind, .int .i64 o.on, .int .i64 o.arg], fun dz uz wz => (∃ (u : PV) (us : List Value), uz = .tuple #[.agg #[.slice u.s u.ns u.cs, .slice u.g u.ng u.cg, .slice u.b u.nb u.cb, .slice u.r u.nr u.cr, .slice u.t u.nt u.ct], .bool sb] ∧ OwnP wz u us rp.cells ∧ (fpP u us).Nodup ∧ ∀ k ∈ fpP u us, w11.heap.size ≤ k), fun dz uz wz => (∃ u : PV, uz = .tuple #[.agg #[.slice u.s u.ns u.cs, .slice u.g u.ng u.cg, .slice u.b u.nb u.cb, .slice u.r u.nr u.cr, .slice u.t u.nt u.ct], .bool sb] ∧ uz = (dz.getD 0 undef)), fun dz uz wz => (∃ u : PV, uz = .agg #[.slice u.s u.ns u.cs, .slice u.g u.ng u.cg, .slice u.b u.nb u.cb, .slice u.r u.nr u.cr, .slice u.t u.nt u.ct] ∧ (dz.getD 0 undef) = .tuple #[.agg #[.slice u.s u.ns u.cs, .slice u.g u.ng u.cg, .slice u.b u.nb u.cb, .slice u.r u.nr u.cr, .slice u.t u.nt u.ct], .bool sb]), fun dz uz wz => uz = .bool sb, fun dz uz wz => (∃ g : Nat, uz = .pointer (some ⟨g, 0, none⟩) ∧ (∃ c0 c1 c2 c3 c4 : Value, Blk wz g #[c0, c1, c2, c3, c4] 26) ∧ w11.heap.size ≤ g), fun dz uz wz => (∃ (g : Nat) (u : PV), (dz.getD 0 undef) = .pointer (some ⟨g, 0, none⟩) ∧ (dz.getD 1 undef) = .agg #[.slice u.s u.ns u.cs, .slice u.g u.ng u.cg, .slice u.b u.nb u.cb, .slice u.r u.nr u.cr, .slice u.t u.nt u.ct] ∧ Blk wz g #[.slice u.s u.ns u.cs, .slice u.g u.ng u.cg, .slice u.b u.nb u.cb, .slice u.r u.nr u.cr, .slice u.t u.nt u.ct] 26)] (St1 11 (TP w11.heap.size)) (fun _ _ => none) (fun _ w' => Below w11.heap.size w11 w') (fun _ _ => (Below.refl _ _).drew) (st1_size (fun _ _ h => h.bel.size)) (stab1_of ⟨fun _ _ _ _ _ h => h, fun _ _ _ _ hb ⟨u, us, e, h, nd, fr⟩ => ⟨u, us, e, h.below hb, nd, fr⟩, fun _ _ _ _ _ h => h, fun _ _ _ _ _ h => h, fun _ _ _ _ _ h => h, fun _ _ _ _ _ h => h, fun _ _ _ _ hb ⟨u, us, e, h, nd, fr⟩ => ⟨u, us, e, h.below hb, nd, fr⟩, fun _ _ _ _ _ h => h, fun _ _ _ _ _ h => h, fun _ _ _ _ _ h => h, fun _ _ _ _ hb ⟨g, e, ⟨c0, c1, c2, c3, c4, h⟩, hs⟩ => ⟨g, e, ⟨c0, c1, c2, c3, c4, h.below hb⟩, hs⟩, fun _ _ _ _ hb ⟨g, u, e1, e2, h⟩ => ⟨g, u, e1, e2, h.below hb⟩, trivial⟩ ⟨.inr (fun _ _ _ _ _ h => h), .inr (fun _ _ _ _ hT ⟨u, us, e, h, nd, fr⟩ => ⟨u, us, e, h.tp hT, nd, fr⟩), .inr (fun _ _ _ _ _ h => h), .inr (fun _ _ _ _ _ h => h), .inr (fun _ _ _ _ _ h => h), .inr (fun _ _ _ _ _ h => h), .inr (fun _ _ _ _ hT ⟨u, us, e, h, nd, fr⟩ => ⟨u, us, e, h.tp hT, nd, fr⟩), .inr (fun _ _ _ _ _ h => h), .inr (fun _ _ _ _ _ h => h), .inr (fun _ _ _ _ _ h => h), .inr (fun _ _ _ _ hT ⟨g, e, ⟨c0, c1, c2, c3, c4, h⟩, hs⟩ => ⟨g, e, hT.prg g _ _ _ _ _ h, hs⟩), .inl rfl, trivial⟩) ?_ ?_
  · simp only [List.take_succ_cons, List.take_zero]
    refine ⟨?_, ?_, ?_, ?_, ?_, ?_, ?_, ?_, ?_, ?_, ?_, ?_, trivial⟩
    · intro ρ w1 L hG hny hfr hd
      have fc : ∀ z, ρ (.const z) = z := fun _ => hfr _ rfl
      have ff : ∀ z, ρ (.func z) = .func (.func z) #[] #[] := fun _ => hfr _ rfl
      have f4 : ρ (.tmp 4) = .pointer (some ⟨w.heap.size, 0, none⟩) := hfr _ rfl
      have q0 := keepc hG q0
      have q1 := keepc hG q1
      have q2 := keepc hG q2
      have q3 := keepc hG q3
      have q4 := keepc hG q4
      refine gives_val (u := .agg #[.slice v.s v.ns v.cs, .slice v.g v.ng v.cg, .slice v.b v.nb v.cb, .slice v.r v.nr v.cr, .slice v.t v.nt v.ct]) (w' := w1) (by go_simp) ⟨st1_below (by decide) (Below.refl _ _), rfl, (fun _ hk => by cases hk), hG⟩
    · intro ρ w1 L hG hny hfr hd
      have fc : ∀ z, ρ (.const z) = z := fun _ => hfr _ rfl
      have ff : ∀ z, ρ (.func z) = .func (.func z) #[] #[] := fun _ => hfr _ rfl
      obtain ⟨d0, -⟩ := hd
      have d0 : (ρ (.tmp 88)) = .agg #[.slice v.s v.ns v.cs, .slice v.g v.ng v.cg, .slice v.b v.nb v.cb, .slice v.r v.nr v.cr, .slice v.t v.nt v.ct] := d0
      refine gives_call (by go_simp; exact ⟨⟨rfl, rfl⟩, rfl⟩) ?_
      refine (toProg_any v p _ (hr.below (B0.trans (hG.mono B0.size))) hs5.out HI.out).mono ?_
      rintro e w13 ⟨u, us, rfl, ou, nd, fr, hb⟩
      exact ⟨_, rfl, st1_below (by decide) (hb), ⟨u, us, rfl, ou, nd, fun k hk => Nat.le_trans hG.size (fr k hk)⟩, (fun _ hk => by cases hk), hG.trans (hb.mono hG.size)⟩
    · intro ρ w1 L hG hny hfr hd
      have fc : ∀ z, ρ (.const z) = z := fun _ => hfr _ rfl
      have ff : ∀ z, ρ (.func z) = .func (.func z) #[] #[] := fun _ => hfr _ rfl
      have f1 : ρ (.tmp 1) = .int .i64 a := hfr _ rfl
      refine gives_val (u := .int .i64 a) (w' := w1) (by go_simp) ⟨st1_below (by decide) (Below.refl _ _), rfl, (fun _ hk => by cases hk), hG⟩
    · intro ρ w1 L hG hny hfr hd
      have fc : ∀ z, ρ (.const z) = z := fun _ => hfr _ rfl
      have ff : ∀ z, ρ (.func z) = .func (.func z) #[] #[] := fun _ => hfr _ rfl
      have f2 : ρ (.tmp 2) = .int .i64 b := hfr _ rfl
      refine gives_val (u := .int .i64 b) (w' := w1) (by go_simp) ⟨st1_below (by decide) (Below.refl _ _), rfl, (fun _ hk => by cases hk), hG⟩
    · intro ρ w1 L hG hny hfr hd
      have fc : ∀ z, ρ (.const z) = z := fun _ => hfr _ rfl
      have ff : ∀ z, ρ (.func z) = .func (.func z) #[] #[] := fun _ => hfr _ rfl
      have f7 : ρ (.tmp 7) = .pointer (some ⟨w.heap.size + 1, 0, none⟩) := hfr _ rfl
      have p0 := keepc hG p0
      have p1 := keepc hG p1
      have p2 := keepc hG p2
      refine gives_val (u := .agg #[.int .i64 o.kind, .int .i64 o.on, .int .i64 o.arg]) (w' := w1) (by go_simp) ⟨st1_below (by decide) (Below.refl _ _), rfl, (fun _ hk => by cases hk), hG⟩
    · intro ρ w1 L hG hny hfr hd
      have fc : ∀ z, ρ (.const z) = z := fun _ => hfr _ rfl
      have ff : ∀ z, ρ (.func z) = .func (.func z) #[] #[] := fun _ => hfr _ rfl
      obtain ⟨d0, -⟩ := hd
      have d0 : (ρ (.tmp 92)) = .agg #[.int .i64 o.kind, .int .i64 o.on, .int .i64 o.arg] := d0
      refine gives_call (by go_simp; exact ⟨⟨rfl, rfl⟩, rfl⟩) ?_
      refine (toOp_any o _).mono ?_
      rintro e w13 ⟨rfl, hb⟩
      exact ⟨_, rfl, st1_below (by decide) (hb), rfl, (fun _ hk => by cases hk), hG.trans (hb.mono hG.size)⟩
    · intro ρ w1 L hG hny hfr hd
      have fc : ∀ z, ρ (.const z) = z := fun _ => hfr _ rfl
      have ff : ∀ z, ρ (.func z) = .func (.func z) #[] #[] := fun _ => hfr _ rfl
      obtain ⟨d0, d1, d2, d3, -⟩ := hd
      have d0 : (∃ (u : PV) (us : List Value), (ρ (.tmp 89)) = .agg #[.slice u.s u.ns u.cs, .slice u.g u.ng u.cg, .slice u.b u.nb u.cb, .slice u.r u.nr u.cr, .slice u.t u.nt u.ct] ∧ OwnP w1 u us p.cells ∧ (fpP u us).Nodup ∧ ∀ k ∈ fpP u us, w11.heap.size ≤ k) := d0
      have d1 : (ρ (.tmp 90)) = .int .i64 a := d1
      have d2 : (ρ (.tmp 91)) = .int .i64 b := d2
      have d3 : (ρ (.tmp 93)) = .agg #[.int .i64 o.kind, .int .i64 o.on, .int .i64 o.arg] := d3
      obtain ⟨v1, vs1, d0, o1, nd1, fr1⟩ := d0
      refine gives_call (by go_simp; exact ⟨⟨rfl, rfl⟩, rfl⟩) ?_
      refine (implPutOp_any v1 p a b o _ o1.rd (HS.out.at hr o1.rd)).mono ?_
      rintro e w13 ⟨u, us, rfl, ou, nd, fr, hb⟩
      exact ⟨_, rfl, st1_below (by decide) (hb), ⟨u, us, by rw [← HSB.out]; rfl, by rw [← HRP.out]; exact ou, nd, fun k hk => Nat.le_trans hG.size (fr k hk)⟩, (fun _ hk => by cases hk), hG.trans (hb.mono hG.size)⟩
    · intro ρ w1 L hG hny hfr hd
      have fc : ∀ z, ρ (.const z) = z := fun _ => hfr _ rfl
      have ff : ∀ z, ρ (.func z) = .func (.func z) #[] #[] := fun _ => hfr _ rfl
      obtain ⟨d0, -⟩ := hd
      have d0 : (∃ (u : PV) (us : List Value), (ρ (.tmp 94)) = .tuple #[.agg #[.slice u.s u.ns u.cs, .slice u.g u.ng u.cg, .slice u.b u.nb u.cb, .slice u.r u.nr u.cr, .slice u.t u.nt u.ct], .bool sb] ∧ OwnP w1 u us rp.cells ∧ (fpP u us).Nodup ∧ ∀ k ∈ fpP u us, w11.heap.size ≤ k) := d0
      obtain ⟨u, us, e6, -⟩ := d0
      refine gives_val (u := .tuple #[.agg #[.slice u.s u.ns u.cs, .slice u.g u.ng u.cg, .slice u.b u.nb u.cb, .slice u.r u.nr u.cr, .slice u.t u.nt u.ct], .bool sb]) (w' := w1) (by go_simp) ⟨st1_below (by decide) (Below.refl _ _), ⟨u, rfl, e6.symm⟩, (fun _ hk => by cases hk), hG⟩
    · intro ρ w1 L hG hny hfr hd
      have fc : ∀ z, ρ (.const z) = z := fun _ => hfr _ rfl
      have ff : ∀ z, ρ (.func z) = .func (.func z) #[] #[] := fun _ => hfr _ rfl
      obtain ⟨d0, -⟩ := hd
      have d0 : (∃ u : PV, (ρ (.tmp 87)) = .tuple #[.agg #[.slice u.s u.ns u.cs, .slice u.g u.ng u.cg, .slice u.b u.nb u.cb, .slice u.r u.nr u.cr, .slice u.t u.nt u.ct], .bool sb] ∧ (ρ (.tmp 87)) = (ρ (.tmp 94))) := d0
      obtain ⟨u, e7, -⟩ := d0
      refine gives_val (u := .agg #[.slice u.s u.ns u.cs, .slice u.g u.ng u.cg, .slice u.b u.nb u.cb, .slice u.r u.nr u.cr, .slice u.t u.nt u.ct]) (w' := w1) (by go_simp) ⟨st1_below (by decide) (Below.refl _ _), ⟨u, rfl, e7⟩, (fun _ hk => by cases hk), hG⟩
    · intro ρ w1 L hG hny hfr hd
      have fc : ∀ z, ρ (.const z) = z := fun _ => hfr _ rfl
      have ff : ∀ z, ρ (.func z) = .func (.func z) #[] #[] := fun _ => hfr _ rfl
      obtain ⟨d0, -⟩ := hd
      have d0 : (∃ u : PV, (ρ (.tmp 87)) = .tuple #[.agg #[.slice u.s u.ns u.cs, .slice u.g u.ng u.cg, .slice u.b u.nb u.cb, .slice u.r u.nr u.cr, .slice u.t u.nt u.ct], .bool sb] ∧ (ρ (.tmp 87)) = (ρ (.tmp 94))) := d0
      obtain ⟨u, e7, -⟩ := d0
      refine gives_val (u := .bool sb) (w' := w1) (by go_simp) ⟨st1_below (by decide) (Below.refl _ _), rfl, (fun _ hk => by cases hk), hG⟩
    · intro ρ w1 L hG hny hfr hd
      have fc : ∀ z, ρ (.const z) = z := fun _ => hfr _ rfl
      have ff : ∀ z, ρ (.func z) = .func (.func z) #[] #[] := fun _ => hfr _ rfl
      refine gives_val (u := .pointer (some ⟨w1.heap.size, 0, none⟩)) (w' := w1.alloc (.cells #[.slice none 0 0, .slice none 0 0, .slice none 0 0, .slice none 0 0, .slice none 0 0] 26)) (by go_simp) ⟨st1_below (by decide) ((Below.refl _ _).alloc (Nat.le_refl _) _), ⟨_, rfl, ⟨_, _, _, _, _, Blk.new _ _ _⟩, hG.size⟩, (fun _ hk => by cases hk), hG.alloc hG.size _⟩
    · intro ρ w1 L hG hny hfr hd
      have fc : ∀ z, ρ (.const z) = z := fun _ => hfr _ rfl
      have ff : ∀ z, ρ (.func z) = .func (.func z) #[] #[] := fun _ => hfr _ rfl
      obtain ⟨d0, d1, -⟩ := hd
      have d0 : (∃ g : Nat, (ρ (.tmp 18)) = .pointer (some ⟨g, 0, none⟩) ∧ (∃ c0 c1 c2 c3 c4 : Value, Blk w1 g #[c0, c1, c2, c3, c4] 26) ∧ w11.heap.size ≤ g) := d0
      have d1 : (∃ u : PV, (ρ (.tmp 95)) = .agg #[.slice u.s u.ns u.cs, .slice u.g u.ng u.cg, .slice u.b u.nb u.cb, .slice u.r u.nr u.cr, .slice u.t u.nt u.ct] ∧ (ρ (.tmp 87)) = .tuple #[.agg #[.slice u.s u.ns u.cs, .slice u.g u.ng u.cg, .slice u.b u.nb u.cb, .slice u.r u.nr u.cr, .slice u.t u.nt u.ct], .bool sb]) := d1
      obtain ⟨g, e10, ⟨c0, c1, c2, c3, c4, hB⟩, hgs⟩ := d0
      obtain ⟨u, e8, -⟩ := d1
      have z0 := hB.cell 0 rfl
      have z1 := hB.cell 1 rfl
      have z2 := hB.cell 2 rfl
      have z3 := hB.cell 3 rfl
      have z4 := hB.cell 4 rfl
      have y0 := hB.fz 0
      have y1 := hB.fz 1
      have y2 := hB.fz 2
      have y3 := hB.fz 3
      have y4 := hB.fz 4
      have hst := TP.store (B := w11.heap.size) (a0 := .slice u.s u.ns u.cs) (a1 := .slice u.g u.ng u.cg) (a2 := .slice u.b u.nb u.cb) (a3 := .slice u.r u.nr u.cr) (a4 := .slice u.t u.nt u.ct) hB hgs
      refine gives_skip (w' := (((((w1.setCell ⟨g, 0, none⟩ (.slice u.s u.ns u.cs)).setCell ⟨g, 1, none⟩ (.slice u.g u.ng u.cg)).setCell ⟨g, 2, none⟩ (.slice u.b u.nb u.cb)).setCell ⟨g, 3, none⟩ (.slice u.r u.nr u.cr)).setCell ⟨g, 4, none⟩ (.slice u.t u.nt u.ct))) (by go_simp) ⟨st1_own hst.1, ⟨g, u, e10, e8, hst.2⟩, (fun _ hk => by cases hk), hG.trans hst.1.bel⟩
  intro vs w13 L hG hlen hall hap hbd
  obtain ⟨xv0, vs0, rfl, hl0⟩ := len_cons hlen
  obtain ⟨xv1, vs1, rfl, hl1⟩ := len_cons hl0
  obtain ⟨xv2, vs2, rfl, hl2⟩ := len_cons hl1
  obtain ⟨xv3, vs3, rfl, hl3⟩ := len_cons hl2
  obtain ⟨xv4, vs4, rfl, hl4⟩ := len_cons hl3
  obtain ⟨xv5, vs5, rfl, hl5⟩ := len_cons hl4
  obtain ⟨xv6, vs6, rfl, hl6⟩ := len_cons hl5
  obtain ⟨xv7, vs7, rfl, hl7⟩ := len_cons hl6
  obtain ⟨xv8, vs8, rfl, hl8⟩ := len_cons hl7
  obtain ⟨xv9, vs9, rfl, hl9⟩ := len_cons hl8
  obtain ⟨xv10, vs10, rfl, hl10⟩ := len_cons hl9
  obtain ⟨xv11, vs11, rfl, hl11⟩ := len_cons hl10
  obtain rfl := len_nil hl11
  clear hlen hl0 hl1 hl2 hl3 hl4 hl5 hl6 hl7 hl8 hl9 hl10 hl11
  simp only [List.take_succ_cons, List.take_zero, List.drop_succ_cons, List.drop_zero] at hall ⊢
  obtain ⟨t0', t1', t2', t3', t4', t5', t6', t7', t8', t9', t10', t11', -⟩ := hall
  have hv0 : xv0 = .agg #[.slice v.s v.ns v.cs, .slice v.g v.ng v.cg, .slice v.b v.nb v.cb, .slice v.r v.nr v.cr, .slice v.t v.nt v.ct] := t0'
  have hv1 : (∃ (u : PV) (us : List Value), xv1 = .agg #[.slice u.s u.ns u.cs, .slice u.g u.ng u.cg, .slice u.b u.nb u.cb, .slice u.r u.nr u.cr, .slice u.t u.nt u.ct] ∧ OwnP w13 u us p.cells ∧ (fpP u us).Nodup ∧ ∀ k ∈ fpP u us, w11.heap.size ≤ k) := t1'
  have hv2 : xv2 = .int .i64 a := t2'
  have hv3 : xv3 = .int .i64 b := t3'
  have hv4 : xv4 = .agg #[.int .i64 o.kind, .int .i64 o.on, .int .i64 o.arg] := t4'
  have hv5 : xv5 = .agg #[.int .i64 o.kind, .int .i64 o.on, .int .i64 o.arg] := t5'
  have hv6 : (∃ (u : PV) (us : List Value), xv6 = .tuple #[.agg #[.slice u.s u.ns u.cs, .slice u.g u.ng u.cg, .slice u.b u.nb u.cb, .slice u.r u.nr u.cr, .slice u.t u.nt u.ct], .bool sb] ∧ OwnP w13 u us rp.cells ∧ (fpP u us).Nodup ∧ ∀ k ∈ fpP u us, w11.heap.size ≤ k) := t6'
  have hv7 : (∃ u : PV, xv7 = .tuple #[.agg #[.slice u.s u.ns u.cs, .slice u.g u.ng u.cg, .slice u.b u.nb u.cb, .slice u.r u.nr u.cr, .slice u.t u.nt u.ct], .bool sb] ∧ xv7 = xv6) := t7'
  have hv8 : (∃ u : PV, xv8 = .agg #[.slice u.s u.ns u.cs, .slice u.g u.ng u.cg, .slice u.b u.nb u.cb, .slice u.r u.nr u.cr, .slice u.t u.nt u.ct] ∧ xv7 = .tuple #[.agg #[.slice u.s u.ns u.cs, .slice u.g u.ng u.cg, .slice u.b u.nb u.cb, .slice u.r u.nr u.cr, .slice u.t u.nt u.ct], .bool sb]) := t8'
  have hv9 : xv9 = .bool sb := t9'
  have hv10 : (∃ g : Nat, xv10 = .pointer (some ⟨g, 0, none⟩) ∧ (∃ c0 c1 c2 c3 c4 : Value, Blk w13 g #[c0, c1, c2, c3, c4] 26) ∧ w11.heap.size ≤ g) := t10'
  have hv11 : (∃ (g : Nat) (u : PV), xv10 = .pointer (some ⟨g, 0, none⟩) ∧ xv8 = .agg #[.slice u.s u.ns u.cs, .slice u.g u.ng u.cg, .slice u.b u.nb u.cb, .slice u.r u.nr u.cr, .slice u.t u.nt u.ct] ∧ Blk w13 g #[.slice u.s u.ns u.cs, .slice u.g u.ng u.cg, .slice u.b u.nb u.cb, .slice u.r u.nr u.cr, .slice u.t u.nt u.ct] 26) := t11'
  clear t0' t1' t2' t3' t4' t5' t6' t7' t8' t9' t10' t11'
  clear hap hbd
  subst hv0 hv2 hv3 hv4 hv5 hv9
  obtain ⟨u3, us3, hx6, ou3, ndu3, fru3⟩ := hv6
  obtain ⟨u7, hx7, hx76⟩ := hv7
  obtain ⟨u8, hx8, hx87⟩ := hv8
  obtain ⟨tB, hx10, -, hg_tB⟩ := hv10
  obtain ⟨g11, u11, hx11, hx118, kB⟩ := hv11
  subst hx6
  subst hx7
  subst hx8
  subst hx10
  obtain rfl : tB = g11 := by simpa using hx11
  have e11 : (#[.slice u8.s u8.ns u8.cs, .slice u8.g u8.ng u8.cg, .slice u8.b u8.nb u8.cb, .slice u8.r u8.nr u8.cr, .slice u8.t u8.nt u8.ct] : Array Value) = #[.slice u11.s u11.ns u11.cs, .slice u11.g u11.ng u11.cg, .slice u11.b u11.nb u11.cb, .slice u11.r u11.nr u11.cr, .slice u11.t u11.nt u11.ct] := by
    have h1 : Value.agg #[.slice u8.s u8.ns u8.cs, .slice u8.g u8.ng u8.cg, .slice u8.b u8.nb u8.cb, .slice u8.r u8.nr u8.cr, .slice u8.t u8.nt u8.ct] = .agg #[.slice u11.s u11.ns u11.cs, .slice u11.g u11.ng u11.cg, .slice u11.b u11.nb u11.cb, .slice u11.r u11.nr u11.cr, .slice u11.t u11.nt u11.ct] := hx118
    simpa using h1
  have e8 : (#[.slice u8.s u8.ns u8.cs, .slice u8.g u8.ng u8.cg, .slice u8.b u8.nb u8.cb, .slice u8.r u8.nr u8.cr, .slice u8.t u8.nt u8.ct] : Array Value) = #[.slice u3.s u3.ns u3.cs, .slice u3.g u3.ng u3.cg, .slice u3.b u3.nb u3.cb, .slice u3.r u3.nr u3.cr, .slice u3.t u3.nt u3.ct] := by
    have h1 := hx87.symm.trans hx76
    simpa using h1
  rw [← e11, e8] at kB
  clear hx11 hx118 e11 hx76
  obtain ⟨u1, us1, hx1, -, -, -⟩ := hv1
  subst hx1
  simp only [putAll, Act.put, List.setIfInBounds_toArray, List.set_cons_succ, List.set_cons_zero]
  replace q0 := keepc hG q0
  replace q1 := keepc hG q1
  replace q2 := keepc hG q2
  replace q3 := keepc hG q3
  replace q4 := keepc hG q4
  replace p0 := keepc hG p0
  replace p1 := keepc hG p1
  replace p2 := keepc hG p2
  replace B0 := B0.trans (hG.mono B0.size)
  replace B3 := B3.trans (hG.mono B3.size)
  replace y0 := keepc hG y0
  replace y1 := keepc hG y1
  replace y2 := keepc hG y2
  replace y3 := keepc hG y3
  replace y4 := keepc hG y4
  replace z0 := keepc hG z0
  replace z1 := keepc hG z1
  replace z2 := keepc hG z2
  replace z3 := keepc hG z3
  replace z4 := keepc hG z4
  replace ou1 := ou1.below hG
  have hsz_w13 := hG.size
  clear hG hx87 e8
  clear ndu3 fru3 hsz_w13 hg_tB
  have t0 : w13.cell? ⟨tB, 0, none⟩ = some (.slice u3.s u3.ns u3.cs) := kB.cell 0 rfl
  have t1 : w13.cell? ⟨tB, 1, none⟩ = some (.slice u3.g u3.ng u3.cg) := kB.cell 1 rfl
  have t2 : w13.cell? ⟨tB, 2, none⟩ = some (.slice u3.b u3.nb u3.cb) := kB.cell 2 rfl
  have t3 : w13.cell? ⟨tB, 3, none⟩ = some (.slice u3.r u3.nr u3.cr) := kB.cell 3 rfl
  have t4 : w13.cell? ⟨tB, 4, none⟩ = some (.slice u3.t u3.nt u3.ct) := kB.cell 4 rfl
  clear kB
  go_wp2_with fail
  refine (eqProg_yes u3 gw rp _ ou3.rd (rW.below B3) (HF.out.small.at ou3.rd)).mono ?_
  rintro e w14 ⟨rfl, hb⟩
  replace q0 := keepc hb q0
  replace q1 := keepc hb q1
  replace q2 := keepc hb q2
  replace q3 := keepc hb q3
  replace q4 := keepc hb q4
  replace p0 := keepc hb p0
  replace p1 := keepc hb p1
  replace p2 := keepc hb p2
  replace B0 := B0.trans (hb.mono B0.size)
  replace B3 := B3.trans (hb.mono B3.size)
  replace y0 := keepc hb y0
  replace y1 := keepc hb y1
  replace y2 := keepc hb y2
  replace y3 := keepc hb y3
  replace y4 := keepc hb y4
  replace z0 := keepc hb z0
  replace z1 := keepc hb z1
  replace z2 := keepc hb z2
  replace z3 := keepc hb z3
  replace z4 := keepc hb z4
  replace ou1 := ou1.below hb
  replace ou3 := ou3.below hb
  replace t0 := keepc hb t0
  replace t1 := keepc hb t1
  replace t2 := keepc hb t2
  replace t3 := keepc hb t3
  replace t4 := keepc hb t4
  clear hb
  go_wp2_with fail
  refine (heldProg_yes u us rp.cells 1 _ ou1 (by omega) (by omega) h5u.out HF.out.rows).mono ?_
  rintro e w15 ⟨rfl, hb⟩
  replace q0 := keepc hb q0
  replace q1 := keepc hb q1
  replace q2 := keepc hb q2
  replace q3 := keepc hb q3
  replace q4 := keepc hb q4
  replace p0 := keepc hb p0
  replace p1 := keepc hb p1
  replace p2 := keepc hb p2
  replace B0 := B0.trans (hb.mono B0.size)
  replace B3 := B3.trans (hb.mono B3.size)
  replace y0 := keepc hb y0
  replace y1 := keepc hb y1
  replace y2 := keepc hb y2
  replace y3 := keepc hb y3
  replace y4 := keepc hb y4
  replace z0 := keepc hb z0
  replace z1 := keepc hb z1
  replace z2 := keepc hb z2
  replace z3 := keepc hb z3
  replace z4 := keepc hb z4
  replace ou1 := ou1.below hb
  replace ou3 := ou3.below hb
  replace t0 := keepc hb t0
  replace t1 := keepc hb t1
  replace t2 := keepc hb t2
  replace t3 := keepc hb t3
  replace t4 := keepc hb t4
  clear hb
  go_wp2
  go_ret
  exact ⟨rfl, B0⟩

end Go.Proofs.Ytnobkdkfhgjeeab
