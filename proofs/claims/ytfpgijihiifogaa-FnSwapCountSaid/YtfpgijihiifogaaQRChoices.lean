/- Part of a proof: RChoices. -/
import Derived.Test.YtfpgijihiifogaaQRStart
import Derived.Test.YtfpgijihiifogaaQRStepT
set_option maxRecDepth 100000
set_option maxHeartbeats 16000000
namespace Go.Proofs.Ytfpgijihiifogaa
open Go.RowKit
abbrev z10 : Array Value := #[.slice none 0 0, .slice none 0 0, .slice none 0 0, .slice none 0 0, .slice none 0 0, .slice none 0 0, .slice none 0 0, .slice none 0 0, .int .i64 0, .slice none 0 0]
abbrev ch4 (w : World) (M : Nat) (v : StV) (a : Option Addr) (n c : Nat) (tr : List Int) (u : PV) : List It := [.blk M (svC v) 44, .row a n c 3 1 (ints tr), .blk (w.heap.size + 1) z10 46, .blk w.heap.size (pvC u) 31]
def chQ (w : World) (n : Nat) (e : Ending) (w' : World) : Prop := ∃ (v : StV) (a : Option Addr) (m c : Nat) (tr : List Int) (b : Bool), e = .returned (.tuple #[.agg #[.slice v.pl.a v.pl.n v.pl.c, .slice v.st.a v.st.n v.st.c, .slice v.se.a v.se.n v.se.c, .slice v.on.a v.on.n v.on.c, .slice v.gr.a v.gr.n v.gr.c, .slice v.ba.a v.ba.n v.ba.c, .slice v.ch.a v.ch.n v.ch.c, .slice v.sa.a v.sa.n v.sa.c, .int .i64 v.fl, .slice a m c], .bool b]) ∧ w'.ownsRow w.heap.size 3 1 (.slice a m c) m (ints tr) ∧ m ≤ n ∧ Below w.heap.size w w'
theorem build_runR (v : StV) (a : Option Addr) (n c : Nat) (w : World) : (Instr.build 46 #[(0, .agg #[.slice v.pl.a v.pl.n v.pl.c, .slice v.st.a v.st.n v.st.c, .slice v.se.a v.se.n v.se.c, .slice v.on.a v.on.n v.on.c, .slice v.gr.a v.gr.n v.gr.c, .slice v.ba.a v.ba.n v.ba.c, .slice v.ch.a v.ch.n v.ch.c, .slice v.sa.a v.sa.n v.sa.c, .int .i64 v.fl]), (1, .slice a n c)]).run Try.prog w = .ok (.agg #[.slice v.pl.a v.pl.n v.pl.c, .slice v.st.a v.st.n v.st.c, .slice v.se.a v.se.n v.se.c, .slice v.on.a v.on.n v.on.c, .slice v.gr.a v.gr.n v.gr.c, .slice v.ba.a v.ba.n v.ba.c, .slice v.ch.a v.ch.n v.ch.c, .slice v.sa.a v.sa.n v.sa.c, .int .i64 v.fl, .slice a n c]) w := run_build w 46 _ _ (by kernel_rfl)
theorem specChoices_ok (u : PV) (p : Pg) (a : Option Addr) (n c : Nat) (cs : List Int) (w : World) (hp : RdP w u p) (hv : progValid p = true) (hr : Rd w a (ints cs)) (hl : cs.length = n) (hn : n ≤ 100) :
  Calls Try.prog 13 #[.agg #[.slice u.s u.ns u.cs, .slice u.g u.ng u.cg, .slice u.b u.nb u.cb, .slice u.r u.nr u.cr, .slice u.t u.nt u.ct], .slice a n c] w (chQ w n) := by
 have HP := xH1 hp
 have HV := xH1 hv
 have HR := xH1 hr
 have HL := xH1 hl
 clear hp hv hr hl
 have F := ((Fr.start w).alloc (pvC u) 31).alloc z10 46
 simp only [World.size_alloc] at F
 have cp := F.c5 1 rfl
 go_enter Try.func13, Try.ntmps13
 go_wp2_with fail
 refine (specStart_ok u p _ (HP.out.below F.bel) HV.out).mono ?_
 rintro e w1 ⟨v0, L0, rfl, ho, hb0, hb⟩
 have h0 := (Sf.gain F ho hb0 hb).alloc (svC v0) 44
 clear F ho hb0 hb cp
 go_upto_region 2 with fail
 obtain ⟨W1, hw, h2⟩ := h0.named
 rw [← hw]
 obtain ⟨M, hM⟩ : ∃ M, M = w1.heap.size := ⟨_, rfl⟩
 rw [← hM] at h2 ⊢
 clear hw hM h0
 have hgt : ¬ ((100 : Int) < (n : Int)) := by omega
 go_upto_region 5 with fail
 have h3 := h2.row (xA1) (owns_empty W1 3 1)
 have h := (h3.pull 1 rfl).sub (l' := ch4 w M v0 (some ⟨W1.heap.size, 0, none⟩) 0 0 [] u) (.refl _)
 clear h2 h3
 have hrun := Run.start HV.out
 go_wp2
 go_loopw [8, 9] (fun q i wr => ∃ (k : Nat) (v : StV) (L : StL) (s : StD) (a' : Option Addr) (m c' : Nat) (tr : List Int), k ≤ n ∧ m ≤ k ∧ q = .slice a' m c' ∧ i = .int .i64 k ∧ Run p s ∧ Sf w wr (ch4 w M v a' m c' tr u) v L s) (fun _ i _ => n - (intOf i).toNat)
 case atStart => exact ⟨0, _, _, _, _, _, _, _, by omega, by omega, rfl, rfl, hrun, h⟩
 case round =>
  clear h hrun
  obtain ⟨k, v, L, s, a', m, c', tr, hk, hm, rfl, rfl, hrun, h⟩ := hrel
  have HF := xH1 hrun
  clear hrun
  have c9 := h.c9 0 rfl
  by_cases hlt : k < n
  ·obtain ⟨b1, o1, rfl, g'⟩ := HR.out.int (by have := HL.out; omega)
   have g := keepc h.bel (g' k (by have := HL.out; omega))
   obtain ⟨x, hx⟩ : ∃ x, x = cs.getD k 0 := ⟨_, rfl⟩
   rw [← hx] at g
   have i0 : (0 : Int) ≤ (k : Int) := by omega
   have i1 : (k : Int) < (n : Int) := by omega
   clear g' hx
   go_wp2_with fail
   refine (specReady7_ok v L s _ h.rd (by have := HF.out.fits.nst; have := (valid_small HV.out).2.2.2.2.1; omega)).mono ?_
   rintro e w2 ⟨a2, c2, rfl, ho, hb⟩
   have h2 := h.row hb ho
   replace g := keepc hb g
   clear hb ho h c9
   obtain ⟨w3, hw, h3⟩ := h2.named
   rw [← hw] at g ⊢
   clear hw h2
   have c9 := h3.c9 1 rfl
   have c10 := h3.fr.c10 3 rfl
   by_cases hx0 : x < 0
   ·have F2 := h3.fr.set10 3 rfl (.slice none 0 0) (.slice none 0 0) (.slice none 0 0) (.slice none 0 0) (.slice none 0 0) (.slice none 0 0) (.slice none 0 0) (.slice none 0 0) (.int .i64 0) (.slice none 0 0)
    clear i0 i1
    have i0 : (0 : Int) ≤ (k : Int) := by omega
    have i1 : (k : Int) < (n : Int) := by omega
    go_wp2
    exact bodyPost_ret (v := .tuple #[.agg #[.slice none 0 0, .slice none 0 0, .slice none 0 0, .slice none 0 0, .slice none 0 0, .slice none 0 0, .slice none 0 0, .slice none 0 0, .int .i64 0, .slice none 0 0], .bool false]) (by simp [results, Try.results13, go_sem, F2.c10 3 rfl]) rfl ⟨stVZ, none, 0, 0, [], false, rfl, World.ownsRow_nil _ _ _ _, Nat.zero_le _, F2.bel⟩
   have hr8 := HF.out.fits.nst
   obtain ⟨l, hlr⟩ : ∃ l, l = readyOf s := ⟨_, rfl⟩
   by_cases hr0 : (readyOf s).length = 0
   ·have t0 : (((readyOf s).length : Int) == 0) = true := by rw [hr0]; rfl
    have hbd := build_runR v a' m c' w3
    have F2 := h3.fr.set10 3 rfl (.slice v.pl.a v.pl.n v.pl.c) (.slice v.st.a v.st.n v.st.c) (.slice v.se.a v.se.n v.se.c) (.slice v.on.a v.on.n v.on.c) (.slice v.gr.a v.gr.n v.gr.c) (.slice v.ba.a v.ba.n v.ba.c) (.slice v.ch.a v.ch.n v.ch.c) (.slice v.sa.a v.sa.n v.sa.c) (.int .i64 v.fl) (.slice a' m c')
    go_wp2
    exact ⟨⟨k + 1, v, L, s, a', m, c', tr, by omega, by omega, rfl, by go_num, HF.out, h3.sub (.cons _ (.refl _))⟩, by simp [intOf]; omega⟩
   have lp : 0 < (readyOf s).length := by omega
   have t0 : (((readyOf s).length : Int) == 0) = false := by simpa using hr0
   obtain ⟨j, hj⟩ : ∃ j : Nat, x.tmod ((readyOf s).length : Int) = (j : Int) := ⟨(x.tmod ((readyOf s).length : Int)).toNat, by have := Int.tmod_nonneg (a := x) ((readyOf s).length : Int) (by omega); omega⟩
   have hj2 : j < (readyOf s).length := by have := Int.tmod_lt_of_pos x (b := ((readyOf s).length : Int)) (by omega); omega
   obtain ⟨b2, o2, e2, g2'⟩ := (h3.fr.rdRow 0 rfl).int (by simpa using lp)
   have g2 := g2' j (by simpa using hj2)
   obtain ⟨t, ht⟩ : ∃ t, t = (readyOf s).getD j 0 := ⟨_, rfl⟩
   rw [← ht] at g2
   have HT : Hid (t ∈ readyOf s) := xH1 (by rw [ht]; simp [List.getD_eq_getElem?_getD, hj2])
   subst e2
   have i2 : (0 : Int) ≤ (j : Int) := by omega
   have i3 : (j : Int) < ((readyOf s).length : Int) := by omega
   clear g2' ht hlr
   have c5 := h3.c5 4 rfl
   go_wp2_with fail
   clear c9 c10 c5 g g2
   refine (specStep_sf u p v L s t w w3 _ h3.fr HP.out h3.rd HF.out HT.out).mono ?_
   rintro e w4 ⟨v', L', rfl, h4⟩
   have h5 := (h4.alloc (svC v') 44).sub (l' := .blk w4.heap.size (svC v') 44 :: ch4 w M v a' m c' tr u) (.cons_cons _ (.cons _ (.refl _)))
   clear h4 h3
   have c9 := h5.c9 0 rfl
   have c8 := h5.c9 1 rfl
   go_upto_region 17 with fail
   have h6 := (h5.set9 1 rfl (.slice v'.pl.a v'.pl.n v'.pl.c) (.slice v'.st.a v'.st.n v'.st.c) (.slice v'.se.a v'.se.n v'.se.c) (.slice v'.on.a v'.on.n v'.on.c) (.slice v'.gr.a v'.gr.n v'.gr.c) (.slice v'.ba.a v'.ba.n v'.ba.c) (.slice v'.ch.a v'.ch.n v'.ch.c) (.slice v'.sa.a v'.sa.n v'.sa.c) (.int .i64 v'.fl)).sub (l' := ch4 w M v' a' m c' tr u) (.cons _ (.refl _))
   obtain ⟨w5, hw, h7⟩ := h6.named
   rw [← hw]
   clear hw h6 h5 c9 c8 hj i0 i1
   have h8 := h7.alloc #[.int .i64 t] 3
   go_wp2_with (at_builtin; refine h8.appI 2 rfl _ _ rfl rfl rfl [t] rfl rfl (Rd.of_blk (h8.fr.blk 0 rfl)) (by omega) ?_; intro a9 c9 w6 h9)
   go_roundw
   case rel => exact ⟨k + 1, v', L', stepD p s t, a9, m + 1, c9, tr ++ [t], by omega, by omega, rfl, by go_num, HF.out.step (HF.out.fits.turn HT.out), h9.sub (l' := ch4 w M v' a9 (m + 1) c9 (tr ++ [t]) u) (.cons _ (.refl _))⟩
   case measure => simp [intOf]; omega
  ·have hbd := build_runR v a' m c' wr
   have c10 := h.fr.c10 2 rfl
   have F2 := h.fr.set10 2 rfl (.slice v.pl.a v.pl.n v.pl.c) (.slice v.st.a v.st.n v.st.c) (.slice v.se.a v.se.n v.se.c) (.slice v.on.a v.on.n v.on.c) (.slice v.gr.a v.gr.n v.gr.c) (.slice v.ba.a v.ba.n v.ba.c) (.slice v.ch.a v.ch.n v.ch.c) (.slice v.sa.a v.sa.n v.sa.c) (.int .i64 v.fl) (.slice a' m c')
   go_wp2
   exact bodyPost_ret (v := .tuple #[.agg #[.slice v.pl.a v.pl.n v.pl.c, .slice v.st.a v.st.n v.st.c, .slice v.se.a v.se.n v.se.c, .slice v.on.a v.on.n v.on.c, .slice v.gr.a v.gr.n v.gr.c, .slice v.ba.a v.ba.n v.ba.c, .slice v.ch.a v.ch.n v.ch.c, .slice v.sa.a v.sa.n v.sa.c, .int .i64 v.fl, .slice a' m c'], .bool true]) (by simp [results, Try.results13, go_sem, F2.c10 2 rfl]) rfl ⟨v, a', m, c', tr, true, rfl, F2.own 1 rfl, by omega, F2.bel⟩
theorem specChoices_no (u : PV) (p : Pg) (a : Option Addr) (n c : Nat) (w : World) (hp : RdP w u p) (hz : Small u p) (hv : progValid p = false) :
  Calls Try.prog 13 #[.agg #[.slice u.s u.ns u.cs, .slice u.g u.ng u.cg, .slice u.b u.nb u.cb, .slice u.r u.nr u.cr, .slice u.t u.nt u.ct], .slice a n c] w (chQ w n) := by
 have HP := xH1 hp
 have HV := xH1 hv
 have HZ := xH1 hz
 clear hp hv hz
 have F := ((Fr.start w).alloc (pvC u) 31).alloc z10 46
 simp only [World.size_alloc] at F
 have cp := F.c5 1 rfl
 go_enter Try.func13, Try.ntmps13
 go_wp2_with fail
 refine (specStart_no u p _ (HP.out.below F.bel) HZ.out HV.out).mono ?_
 rintro e w1 ⟨rfl, hb⟩
 have F1 := (F.call hb).alloc zC 44
 clear F hb cp
 go_upto_region 2 with fail
 obtain ⟨W1, hw, F2⟩ := F1.named
 rw [← hw]
 clear hw F1
 have c10 := F2.c10 1 rfl
 have F3 := F2.set10 1 rfl (.slice none 0 0) (.slice none 0 0) (.slice none 0 0) (.slice none 0 0) (.slice none 0 0) (.slice none 0 0) (.slice none 0 0) (.slice none 0 0) (.int .i64 0) (.slice none 0 0)
 go_wp2
 exact bodyPost_ret (v := .tuple #[.agg #[.slice none 0 0, .slice none 0 0, .slice none 0 0, .slice none 0 0, .slice none 0 0, .slice none 0 0, .slice none 0 0, .slice none 0 0, .int .i64 0, .slice none 0 0], .bool false]) (by simp [results, Try.results13, go_sem, F3.c10 1 rfl]) rfl ⟨stVZ, none, 0, 0, [], false, rfl, World.ownsRow_nil _ _ _ _, Nat.zero_le _, F3.bel⟩
end Go.Proofs.Ytfpgijihiifogaa
