/- Part of a proof: MQueued. -/
import Derived.StillTailTactics
import Derived.Test.YtfpgijihiifogaaQMShared
set_option maxRecDepth 100000
set_option maxHeartbeats 16000000
namespace Go.Proofs.Ytfpgijihiifogaa
open Go.RowKit Go.Sort
def semT (s : StD) (i : Nat) : List Int := (s.sems.getD i noSem).queue.map (·.1)
def onT (s : StD) (i : Nat) : List Int := (s.onces.getD i noOnce).waits
def grT (s : StD) (i : Nat) : List Int := (s.groups.getD i noGrp).waits
def baT (s : StD) (i : Nat) : List Int := (s.bars.getD i noBar).waits
def chT (s : StD) (i : Nat) : List Int := (s.chans.getD i noChn).senders.map (·.1) ++ (s.chans.getD i noChn).getters
theorem allE_map {α β : Type} (g : α → β) (f : Nat → List α) : ∀ n, (allE f n).map g = allE (fun i => (f i).map g) n
 | 0 => rfl
 | n + 1 => by rw [allE, allE, List.map_append, allE_map g f n]
theorem eT_eq (s : StD) : eT s = allE (semT s) s.sems.length ++ allE (onT s) s.onces.length ++ allE (grT s) s.groups.length ++ allE (baT s) s.bars.length ++ allE (chT s) s.chans.length := by
 unfold eT ents
 simp only [List.map_append, allE_map, List.append_assoc]
 congr 1
 ·exact allE_congr fun i _ => by simp [semEn, semT]
 congr 1
 ·exact allE_congr fun i _ => by unfold onceEn onT; rw [List.map_map]; exact List.map_id' _
 congr 1
 ·exact allE_congr fun i _ => by unfold grpEn grT; rw [List.map_map]; exact List.map_id' _
 congr 1
 ·exact allE_congr fun i _ => by unfold barEn baT; rw [List.map_map]; exact List.map_id' _
 ·exact allE_congr fun i _ => by unfold chnEn chT; rw [List.map_append, List.map_map, List.map_map]; congr 1; exact List.map_id' _
def cntL (n : Nat) (l : List Int) : List Int := (List.range n).map fun t : Nat => ((l.count (t : Int) : Nat) : Int)
theorem cntL_len (n : Nat) (l : List Int) : (cntL n l).length = n := by simp [cntL]
theorem cntL_get (n : Nat) (l : List Int) {t : Nat} (h : t < n) : (cntL n l).getD t 0 = ((l.count (t : Int) : Nat) : Int) := by
 simp [cntL, List.getD, h]
theorem cntL_nil (n : Nat) : cntL n [] = List.replicate n 0 := by
 unfold cntL
 apply List.ext_getElem <;> simp
theorem cntL_snoc (n : Nat) (l : List Int) {x : Int} (h0 : 0 ≤ x) (h1 : x < n) : (cntL n l).set x.toNat ((cntL n l).getD x.toNat 0 + 1) = cntL n (l ++ [x]) := by
 have hy := cntL_get n l (show x.toNat < n by omega)
 obtain ⟨y, ey⟩ : ∃ y, y = (cntL n l).getD x.toNat 0 := ⟨_, rfl⟩
 rw [← ey] at hy ⊢
 clear ey
 subst hy
 apply List.ext_getElem
 ·simp [cntL]
 ·intro i h2 h3
  rw [List.getElem_set]
  simp only [cntL, List.getElem_map, List.getElem_range, List.count_append]
  by_cases hx : x.toNat = i
  ·subst hx
   rw [if_pos rfl, show ((x.toNat : Nat) : Int) = x by omega]
   simp
  ·rw [if_neg hx]
   have : List.count (i : Int) [x] = 0 := List.count_eq_zero.2 (fun h => hx (by rw [← xS1 h]; omega))
   rw [this]; simp
theorem specQueued_ok (u : PV) (p : Pg) (v : StV) (L : StL) (s : StD) (w : World) (hp : RdP w u p) (hv : progValid p = true) (hr : StR w v L s) (hf : Fits p s) :
  Calls Try.prog 62 #[.agg #[.slice u.s u.ns u.cs, .slice u.g u.ng u.cg, .slice u.b u.nb u.cb, .slice u.r u.nr u.cr, .slice u.t u.nt u.ct], .agg #[.slice v.pl.a v.pl.n v.pl.c, .slice v.st.a v.st.n v.st.c, .slice v.se.a v.se.n v.se.c, .slice v.on.a v.on.n v.on.c, .slice v.gr.a v.gr.n v.gr.c, .slice v.ba.a v.ba.n v.ba.c, .slice v.ch.a v.ch.n v.ch.c, .slice v.sa.a v.sa.n v.sa.c, .int .i64 v.fl]] w fun e w' => ∃ (a : Option Addr) (c : Nat), e = .returned (.tuple #[.slice a u.nt c, .bool true]) ∧ w'.ownsRow w.heap.size 3 1 (.slice a u.nt c) u.nt (ints (cntL u.nt (eT s))) ∧ Below w.heap.size w w' := by
 have HS := xH1 hr
 have HF := xH1 hf
 obtain ⟨z1, z2, z3, z4, ⟨z5, z6⟩, -⟩ := valid_small hv
 have Lse := xH1 hr.se.len
 have Lon := xH1 hr.on.len
 have Lgr := xH1 hr.gr.len
 have Lba := xH1 hr.ba.len
 have Lch := xH1 hr.ch.len
 have zse : v.se.n ≤ 3 := by rw [hr.se.len, hf.nse]; exact z1
 have zgr : v.gr.n ≤ 3 := by rw [hr.gr.len, hf.ngr]; exact z2
 have zba : v.ba.n ≤ 3 := by rw [hr.ba.len, hf.nba]; exact z3
 have zch : v.ch.n ≤ 3 := by rw [hr.ch.len, hf.nch]; exact z4
 have zon : v.on.n ≤ 3 := by rw [hr.on.len, hf.non]; omega
 have znt : u.nt ≤ 4 := by rw [← hp.lt]; exact z6
 have LT := xH1 hp.lt
 clear hr hp hf hv z1 z2 z3 z4 z5 z6
 obtain ⟨i0, hi0, hz0, hz1, hz2⟩ := info_parts info_int
 obtain ⟨W0, hW0⟩ : ∃ W0 : World, W0 = (((w.alloc (.cells #[.slice u.s u.ns u.cs, .slice u.g u.ng u.cg, .slice u.b u.nb u.cb, .slice u.r u.nr u.cr, .slice u.t u.nt u.ct] 31)).alloc (.cells #[.slice v.pl.a v.pl.n v.pl.c, .slice v.st.a v.st.n v.st.c, .slice v.se.a v.se.n v.se.c, .slice v.on.a v.on.n v.on.c, .slice v.gr.a v.gr.n v.gr.c, .slice v.ba.a v.ba.n v.ba.c, .slice v.ch.a v.ch.n v.ch.c, .slice v.sa.a v.sa.n v.sa.c, .int .i64 v.fl] 44)).alloc (.cells #[] 3)) := ⟨_, rfl⟩
 have B0 : Below w.heap.size w W0 := by
  rw [hW0]
  exact (((xB1.alloc (by simp) _).alloc (by simp) _).alloc (by simp; omega) _)
 have kP : Blk W0 (w.heap.size) #[.slice u.s u.ns u.cs, .slice u.g u.ng u.cg, .slice u.b u.nb u.cb, .slice u.r u.nr u.cr, .slice u.t u.nt u.ct] 31 := by
  rw [hW0]
  have h := Blk.new w #[.slice u.s u.ns u.cs, .slice u.g u.ng u.cg, .slice u.b u.nb u.cb, .slice u.r u.nr u.cr, .slice u.t u.nt u.ct] 31
  exact h |>.alloc _ |>.alloc _
 have kS : Blk W0 (w.heap.size + 1) #[.slice v.pl.a v.pl.n v.pl.c, .slice v.st.a v.st.n v.st.c, .slice v.se.a v.se.n v.se.c, .slice v.on.a v.on.n v.on.c, .slice v.gr.a v.gr.n v.gr.c, .slice v.ba.a v.ba.n v.ba.c, .slice v.ch.a v.ch.n v.ch.c, .slice v.sa.a v.sa.n v.sa.c, .int .i64 v.fl] 44 := by
  rw [hW0]
  have h := Blk.new (w.alloc (.cells #[.slice u.s u.ns u.cs, .slice u.g u.ng u.cg, .slice u.b u.nb u.cb, .slice u.r u.nr u.cr, .slice u.t u.nt u.ct] 31)) #[.slice v.pl.a v.pl.n v.pl.c, .slice v.st.a v.st.n v.st.c, .slice v.se.a v.se.n v.se.c, .slice v.on.a v.on.n v.on.c, .slice v.gr.a v.gr.n v.gr.c, .slice v.ba.a v.ba.n v.ba.c, .slice v.ch.a v.ch.n v.ch.c, .slice v.sa.a v.sa.n v.sa.c, .int .i64 v.fl] 44
  simp only [World.size_alloc] at h
  exact h |>.alloc _
 have kE : Blk W0 (w.heap.size + 2) #[] 3 := by
  rw [hW0]
  have h := Blk.new ((w.alloc (.cells #[.slice u.s u.ns u.cs, .slice u.g u.ng u.cg, .slice u.b u.nb u.cb, .slice u.r u.nr u.cr, .slice u.t u.nt u.ct] 31)).alloc (.cells #[.slice v.pl.a v.pl.n v.pl.c, .slice v.st.a v.st.n v.st.c, .slice v.se.a v.se.n v.se.c, .slice v.on.a v.on.n v.on.c, .slice v.gr.a v.gr.n v.gr.c, .slice v.ba.a v.ba.n v.ba.c, .slice v.ch.a v.ch.n v.ch.c, .slice v.sa.a v.sa.n v.sa.c, .int .i64 v.fl] 44)) #[] 3
  simp only [World.size_alloc, Nat.add_assoc, Nat.reduceAdd] at h
  exact h
 have hS0 : W0.heap.size = w.heap.size + 3 := by rw [hW0]; simp
 have p4 := kP.cell 4 rfl
 have q0 := kS.cell 0 rfl
 have q1 := kS.cell 1 rfl
 have q2 := kS.cell 2 rfl
 have q3 := kS.cell 3 rfl
 have q4 := kS.cell 4 rfl
 have q5 := kS.cell 5 rfl
 have q6 := kS.cell 6 rfl
 have q7 := kS.cell 7 rfl
 have q8 := kS.cell 8 rfl
 have kE1 : Blk W0 (w.heap.size + 1 + 1) #[] 3 := kE
 have HE := xH1 (owns_of_blk (B := w.heap.size + 2) kE1 (by omega) (sz := 1) (m := 0) rfl (Nat.zero_le _))
 have HB := xH1 B0
 have hW0s := hS0
 clear B0 kS kP kE kE1
 go_enter Try.func62, Try.ntmps62
 go_wp2
 rw [← hW0]
 clear hW0
 go_loopw [7, 6] (fun i z wr => ∃ (j : Nat) (a : Option Addr) (l c : Nat), j ≤ v.se.n ∧ i = .int .i64 j ∧ z = .slice a l c ∧ Hid (wr.ownsRow (w.heap.size + 2) 3 1 (.slice a l c) l (ints (allE (semT s) j))) ∧ l ≤ 0 + 6 * j ∧ Below (w.heap.size + 2) W0 wr) (fun i _ _ => v.se.n - (intOf i).toNat)
 case atStart => exact ⟨0, _, 0, 0, by omega, rfl, rfl, HE, by omega, Below.refl _ _⟩
 case round =>
  obtain ⟨j, a, l, c, hj, rfl, rfl, ho, hl, hb0⟩ := hrel
  have cq := keepB hb0 (by show w.heap.size + 1 < w.heap.size + 2; omega) q2
  have hbw := HB.out.trans (hb0.mono (by omega))
  have hsw : w.heap.size + 2 ≤ wr.heap.size := by have := hb0.size; omega
  by_cases hlt : j < v.se.n
  rotate_left
  ·obtain rfl : j = v.se.n := by omega
   go_wp2
   obtain ⟨WZ, hWZ⟩ : ∃ W', W' = wr := ⟨_, rfl⟩
   rw [← hWZ] at ho hb0 hsw ⊢
   clear cq hlt hWZ hj hbw hsw wr
   go_loopw [9, 6] (fun i z wr => ∃ (j : Nat) (a : Option Addr) (l c : Nat), j ≤ v.on.n ∧ i = .int .i64 j ∧ z = .slice a l c ∧ Hid (wr.ownsRow (w.heap.size + 2) 3 1 (.slice a l c) l (ints (allE (semT s) v.se.n ++ allE (onT s) j))) ∧ l ≤ 18 + 6 * j ∧ Below (w.heap.size + 2) W0 wr) (fun i _ _ => v.on.n - (intOf i).toNat)
   case atStart => exact ⟨0, a, l, c, by omega, rfl, rfl, by simpa [allE] using ho, by omega, hb0⟩
   case round =>
    obtain ⟨j, a, l, c, hj, rfl, rfl, ho, hl, hb0⟩ := hrel
    have cq := keepB hb0 (by show w.heap.size + 1 < w.heap.size + 2; omega) q3
    have hbw := HB.out.trans (hb0.mono (by omega))
    have hsw : w.heap.size + 2 ≤ wr.heap.size := by have := hb0.size; omega
    by_cases hlt : j < v.on.n
    rotate_left
    ·obtain rfl : j = v.on.n := by omega
     go_wp2
     obtain ⟨WZ, hWZ⟩ : ∃ W', W' = wr := ⟨_, rfl⟩
     rw [← hWZ] at ho hb0 hsw ⊢
     clear cq hlt hWZ hj hbw hsw wr
     go_loopw [10, 6] (fun i z wr => ∃ (j : Nat) (a : Option Addr) (l c : Nat), j ≤ v.gr.n ∧ i = .int .i64 j ∧ z = .slice a l c ∧ Hid (wr.ownsRow (w.heap.size + 2) 3 1 (.slice a l c) l (ints (allE (semT s) v.se.n ++ allE (onT s) v.on.n ++ allE (grT s) j))) ∧ l ≤ 36 + 6 * j ∧ Below (w.heap.size + 2) W0 wr) (fun i _ _ => v.gr.n - (intOf i).toNat)
     case atStart => exact ⟨0, a, l, c, by omega, rfl, rfl, by simpa [allE] using ho, by omega, hb0⟩
     case round =>
      obtain ⟨j, a, l, c, hj, rfl, rfl, ho, hl, hb0⟩ := hrel
      have cq := keepB hb0 (by show w.heap.size + 1 < w.heap.size + 2; omega) q4
      have hbw := HB.out.trans (hb0.mono (by omega))
      have hsw : w.heap.size + 2 ≤ wr.heap.size := by have := hb0.size; omega
      by_cases hlt : j < v.gr.n
      rotate_left
      ·obtain rfl : j = v.gr.n := by omega
       go_wp2
       obtain ⟨WZ, hWZ⟩ : ∃ W', W' = wr := ⟨_, rfl⟩
       rw [← hWZ] at ho hb0 hsw ⊢
       clear cq hlt hWZ hj hbw hsw wr
       go_loopw [11, 6] (fun i z wr => ∃ (j : Nat) (a : Option Addr) (l c : Nat), j ≤ v.ba.n ∧ i = .int .i64 j ∧ z = .slice a l c ∧ Hid (wr.ownsRow (w.heap.size + 2) 3 1 (.slice a l c) l (ints (allE (semT s) v.se.n ++ allE (onT s) v.on.n ++ allE (grT s) v.gr.n ++ allE (baT s) j))) ∧ l ≤ 54 + 6 * j ∧ Below (w.heap.size + 2) W0 wr) (fun i _ _ => v.ba.n - (intOf i).toNat)
       case atStart => exact ⟨0, a, l, c, by omega, rfl, rfl, by simpa [allE] using ho, by omega, hb0⟩
       case round =>
        obtain ⟨j, a, l, c, hj, rfl, rfl, ho, hl, hb0⟩ := hrel
        have cq := keepB hb0 (by show w.heap.size + 1 < w.heap.size + 2; omega) q5
        have hbw := HB.out.trans (hb0.mono (by omega))
        have hsw : w.heap.size + 2 ≤ wr.heap.size := by have := hb0.size; omega
        by_cases hlt : j < v.ba.n
        rotate_left
        ·obtain rfl : j = v.ba.n := by omega
         go_wp2
         obtain ⟨WZ, hWZ⟩ : ∃ W', W' = wr := ⟨_, rfl⟩
         rw [← hWZ] at ho hb0 hsw ⊢
         clear cq hlt hWZ hj hbw hsw wr
         go_loopw [12, 6] (fun i z wr => ∃ (j : Nat) (a : Option Addr) (l c : Nat), j ≤ v.ch.n ∧ i = .int .i64 j ∧ z = .slice a l c ∧ Hid (wr.ownsRow (w.heap.size + 2) 3 1 (.slice a l c) l (ints (allE (semT s) v.se.n ++ allE (onT s) v.on.n ++ allE (grT s) v.gr.n ++ allE (baT s) v.ba.n ++ allE (chT s) j))) ∧ l ≤ 72 + 12 * j ∧ Below (w.heap.size + 2) W0 wr) (fun i _ _ => v.ch.n - (intOf i).toNat)
         case atStart => exact ⟨0, a, l, c, by omega, rfl, rfl, by simpa [allE] using ho, by omega, hb0⟩
         case round =>
          obtain ⟨j, a, l, c, hj, rfl, rfl, ho, hl, hb0⟩ := hrel
          have cq := keepB hb0 (by show w.heap.size + 1 < w.heap.size + 2; omega) q6
          have hbw := HB.out.trans (hb0.mono (by omega))
          have hsw : w.heap.size + 2 ≤ wr.heap.size := by have := hb0.size; omega
          by_cases hlt : j < v.ch.n
          rotate_left
          ·obtain rfl : j = v.ch.n := by omega
           have HALL : Hid (wr.ownsRow (w.heap.size + 2) 3 1 (.slice a l c) l (ints (eT s))) := xH1 (by
            have h := ho.out
            rw [Lse.out, Lon.out, Lgr.out, Lba.out, Lch.out, ← eT_eq] at h
            exact h)
           have hal : (eT s).length = l := by have := HALL.out.1; rw [List.length_map] at this; omega
           have cp := keepB hb0 (by show w.heap.size < w.heap.size + 2; omega) p4
           have HAL := xH1 hal
           clear hal ho
           go_wp2_with (refine wpList_make_full _ rfl _ _ 23 rfl (w.heap.size + 2) 3 i0 (.int .i64 0) 1 Try.underlying23 hi0 hz0 hz1 _ _ _ _ u.nt rfl rfl rfl rfl (by rw [hz2]; omega) (by unfold maxLen; omega) hsw ?_; intro w2 hown1 hgr1; have HOM := xH1 hown1; have HGM := xH1 hgr1; clear hown1 hgr1)
           have hown1 := HOM.out
           rw [show (Value.int .i64 0).cells = #[.int .i64 0] from rfl, Nat.mul_one, toList_madeCells_one] at hown1
           have hb2 : Below wr.heap.size wr w2 := below_of_grown HGM.out xL1 (by simp)
           obtain ⟨g, hg⟩ : ∃ g, g = wr.heap.size := ⟨_, rfl⟩
           have HA2 := xH1 (owns_below HALL.out hb2)
           rw [← hg] at hown1 ⊢
           have hgw : w.heap.size + 2 ≤ g := by omega
           have HBG : Hid (Below w.heap.size w w2) := xH1 (hbw.trans (hb2.mono hbw.size))
           obtain ⟨ga, hga⟩ : ∃ ga, 0 < l → a = some ⟨ga, 0, none⟩ ∧ ga < g := by
            by_cases h0 : 0 < l
            ·obtain ⟨ga, e, -, h⟩ := owns_at HALL.out h0
             exact ⟨ga, fun _ => ⟨e, by omega⟩⟩
            ·exact ⟨0, fun h => absurd h h0⟩
           have HGA := xH1 hga
           have hsg : g ≤ w2.heap.size := by rw [hg]; exact hb2.size
           have HC0 : Hid (w2.ownsRow (w.heap.size + 2) 3 1 (.slice (some ⟨g, 0, none⟩) u.nt u.nt) u.nt (ints (cntL u.nt ((eT s).take 0)))) := xH1 (by rw [List.take_zero, cntL_nil]; simpa [ints] using hown1)
           obtain ⟨ws, hws⟩ : ∃ ws, ws = w2 := ⟨_, rfl⟩
           rw [← hws] at HA2 HBG HC0 hsg ⊢
           clear hown1 hb2 hga hg hws cp HOM HGM hbw hb0 hlt hj HALL hsw
           go_loopw [14] (fun i wk => ∃ k : Nat, k ≤ l ∧ i = .int .i64 k ∧ Hid (wk.ownsRow (w.heap.size + 2) 3 1 (.slice (some ⟨g, 0, none⟩) u.nt u.nt) u.nt (ints (cntL u.nt ((eT s).take k)))) ∧ Below g ws wk) (fun i _ => l - (intOf i).toNat)
           case atStart => exact ⟨0, by omega, rfl, HC0, Below.refl _ _⟩
           case round =>
            obtain ⟨k, hk, rfl, HC, hbk⟩ := hrel
            by_cases hkl : k < l
            ·obtain ⟨ea, hga⟩ := HGA.out (by omega)
             obtain ⟨x, hx⟩ : ∃ x, x = (eT s).getD k 0 := ⟨_, rfl⟩
             have hmx : x ∈ eT s := by
              rw [hx, List.getD_eq_getElem?_getD, List.getElem?_eq_getElem (by have := HAL.out; omega)]
              exact List.getElem_mem _
             obtain ⟨e, he, hex⟩ := List.mem_map.1 hmx
             have hxr := HF.out.we e he
             rw [hex, LT.out] at hxr
             have hx0 := hxr.1
             have hx1 := hxr.2
             have own := HA2.out
             rw [ea] at own
             have cx := own.cellAt k (by omega)
             replace cx : ws.cell? ⟨ga, k, none⟩ = some (.int .i64 x) := by
              rw [cx, hx]
              have : k < (eT s).length := by have := HAL.out; omega
              simp [ints, List.getD, this]
             replace cx := keepB hbk (by show ga < g; exact hga) cx
             obtain ⟨y, hy⟩ : ∃ y, y = (cntL u.nt ((eT s).take k)).getD x.toNat 0 := ⟨_, rfl⟩
             have cy := HC.out.cellAt x.toNat (by omega)
             replace cy : wr.cell? ⟨g, x.toNat, none⟩ = some (.int .i64 y) := by
              rw [cy, hy]
              have : x.toNat < (cntL u.nt ((eT s).take k)).length := by rw [cntL_len]; omega
              simp [ints, List.getD, this]
             have hyb : 0 ≤ y ∧ y ≤ l := by
              rw [hy, cntL_get _ _ (by omega)]
              have := List.count_le_length (a := ((x.toNat : Nat) : Int)) (l := (eT s).take k)
              rw [List.length_take] at this
              omega
             have hwr : IntKind.i64.wrap (y + 1) = y + 1 := Go.IntWalk.i64_in _ (by omega)
             have hfz := HC.out.frozenAt x.toNat
             have R := owns_store (owns_below HC.out xB1.drew) x.toNat (.int .i64 (y + 1)) (cs' := ints (cntL u.nt ((eT s).take (k + 1)))) (by
              rw [← take_snoc _ 0 (show k < (eT s).length by have := HAL.out; omega), ← hx, ← cntL_snoc _ _ hx0 (by exact hx1), ← hy]
              simp [ints, List.map_set])
             have HR := xH1 R
             have i2 : (0 : Int) ≤ (k : Int) := by omega
             have i3 : (k : Int) < (l : Int) := by omega
             subst ea
             clear hx hmx hex he hxr own hy hyb R
             go_wp2
             go_still_tail 14, (by kernel_rfl)
             go_wp2
             go_roundw
             case rel => exact ⟨k + 1, by omega, by go_num, xH1 HR.out.1, hbk.drew.trans (below_of_grown HR.out.2 (Nat.le_trans hsg hbk.drew.size) (by rintro q hq; cases hq; exact Nat.le_refl _))⟩
             case measure => simp [intOf]; omega
            ·have hkq : k = l := by omega
             subst hkq
             have hfin := HC.out
             rw [← HAL.out, List.take_length] at hfin
             have HFN := xH1 hfin
             clear hfin
             go_wp2
             refine bodyPost_ret (v := .tuple #[.slice (some ⟨g, 0, none⟩) u.nt u.nt, .bool true]) (by simp [results, Try.results62, go_sem]) rfl ⟨_, _, rfl, owns_mono HFN.out (by omega), HBG.out.trans (hbk.mono (by omega))⟩
          ·have hjs : j < s.chans.length := by have := Lch.out; omega
           obtain ⟨x, q, b1, o1, HX, ea, g0, g1, g2, g3, g4, Q0, QL0, QC0, Q1, QL1, QC1, Q2, QL2, QC2⟩ := HS.out.at_ch (j := j) hjs
           have hok := (HF.out.ch j hjs).1
           rw [← HX.out] at hok
           rw [ea] at cq
           have i0' : (0 : Int) ≤ (j : Int) := by omega
           have i1 : (j : Int) < v.ch.n := by omega
           clear ea hjs
           have h6 := hok.2.2.2.2.1.1
           rw [List.length_append, List.length_map] at h6
           have hq1 : q.2.1.n ≤ 6 := by rw [QL1.out]; omega
           have hq2 : q.2.2.n ≤ 6 := by rw [QL2.out]; omega
           have cg2 := keepc hbw g2
           have cg3 := keepc hbw g3
           obtain ⟨A, hA⟩ : ∃ A, A = (rowOf a).toList := ⟨_, rfl⟩
           have hAb : ∀ b ∈ A, w.heap.size + 2 ≤ b ∧ b < wr.heap.size := fun b hb => by rw [hA] at hb; exact owns_row ho.out b (by simpa using hb)
           have hxa1 : ∀ b, v.ch.a = some b → True := fun _ _ => trivial
           have hb1w : b1 < w.heap.size := by have := World.block_lt_of_cell? w _ g2; exact this
           have S1 : Hid (SlR A wr q.2.1 (pairs x.senders) x.senders.length) := xH1 ⟨QL1.out, Q1.out.below hbw, by
            by_cases h0 : pairs x.senders = []
            ·exact .inl h0
            ·exact .inr fun b hb hm => by have := Q1.out.far h0 b hb; have := (hAb b hm).1; omega, QC1.out⟩
           have S2 : Hid (SlR A wr q.2.2 (ints x.getters) x.getters.length) := xH1 ⟨QL2.out, Q2.out.below hbw, by
            by_cases h0 : ints x.getters = []
            ·exact .inl h0
            ·exact .inr fun b hb hm => by have := Q2.out.far h0 b hb; have := (hAb b hm).1; omega, QC2.out⟩
           have HAB := xH1 hAb
           have HHA := xH1 hA
           have nS : w.heap.size + 1 ∉ A := fun hm => by have := (hAb _ hm).1; omega
           have nB : b1 ∉ A := fun hm => by have := (hAb _ hm).1; omega
           have HL1 : Hid ((ints (x.senders.map (·.1))).length = q.2.1.n * 1) := xH1 (by rw [List.length_map, List.length_map, QL1.out, Nat.mul_one])
           have HL2 : Hid ((ints x.getters).length = q.2.2.n * 1) := xH1 (by rw [List.length_map, QL2.out, Nat.mul_one])
           clear hok h6 g0 g1 g2 g3 g4 hAb hA hxa1
           go_wp2
           refine wp_region_steps 15 (by kernel_rfl) (by kernel_rfl) [fun dz uz wz => uz = .slice a l c, fun dz uz wz => uz = .pointer (some ⟨w.heap.size + 1, 6, none⟩), fun dz uz wz => uz = .slice (some ⟨b1, o1, none⟩) v.ch.n v.ch.c, fun dz uz wz => uz = .int .i64 j, fun dz uz wz => uz = .pointer (some ⟨b1, o1 + j * 5, none⟩), fun dz uz wz => uz = .pointer (some ⟨b1, o1 + j * 5 + 2, none⟩), fun dz uz wz => uz = .slice q.2.1.a q.2.1.n q.2.1.c, fun dz uz wz => (∃ (a5 : Option Addr) (c5 : Nat), uz = .slice a5 q.2.1.n c5 ∧ wz.ownsRow wr.heap.size 3 1 (.slice a5 q.2.1.n c5) q.2.1.n (ints (x.senders.map (·.1)))), fun dz uz wz => (∃ (a6 : Option Addr) (c6 : Nat), uz = .slice a6 (l + q.2.1.n) c6 ∧ wz.ownsRow (w.heap.size + 2) 3 1 (.slice a6 (l + q.2.1.n) c6) (l + q.2.1.n) (ints (allE (semT s) v.se.n ++ allE (onT s) v.on.n ++ allE (grT s) v.gr.n ++ allE (baT s) v.ba.n ++ allE (chT s) j) ++ ints (x.senders.map (·.1)))), fun dz uz wz => uz = .pointer (some ⟨w.heap.size + 1, 6, none⟩), fun dz uz wz => uz = .slice (some ⟨b1, o1, none⟩) v.ch.n v.ch.c, fun dz uz wz => uz = .int .i64 j, fun dz uz wz => uz = .pointer (some ⟨b1, o1 + j * 5, none⟩), fun dz uz wz => uz = .pointer (some ⟨b1, o1 + j * 5 + 3, none⟩), fun dz uz wz => uz = .slice q.2.2.a q.2.2.n q.2.2.c] (St1 8 (Touch A)) (fun _ _ => none) (Stage 8 A wr) (Stage.start _ _ _) (st1_size (fun _ _ h => h.size)) (stab1_of ⟨fun _ _ _ _ _ h => h, fun _ _ _ _ _ h => h, fun _ _ _ _ _ h => h, fun _ _ _ _ _ h => h, fun _ _ _ _ _ h => h, fun _ _ _ _ _ h => h, fun _ _ _ _ _ h => h, fun _ _ _ _ hb ⟨a5, c5, e, h⟩ => ⟨a5, c5, e, owns_below h hb⟩, fun _ _ _ _ hb ⟨a6, c6, e, h⟩ => ⟨a6, c6, e, owns_below h hb⟩, fun _ _ _ _ _ h => h, fun _ _ _ _ _ h => h, fun _ _ _ _ _ h => h, fun _ _ _ _ _ h => h, fun _ _ _ _ _ h => h, fun _ _ _ _ _ h => h, trivial⟩ ⟨.inr (fun _ _ _ _ _ h => h), .inr (fun _ _ _ _ _ h => h), .inr (fun _ _ _ _ _ h => h), .inr (fun _ _ _ _ _ h => h), .inr (fun _ _ _ _ _ h => h), .inr (fun _ _ _ _ _ h => h), .inr (fun _ _ _ _ _ h => h), .inr (fun _ _ _ _ hT ⟨a5, c5, e, h⟩ => ⟨a5, c5, e, owns_touch h hT (fun k hk hm => by have := (owns_row h k hk).1; have := (HAB.out k hm).2; omega)⟩), .inl rfl, .inr (fun _ _ _ _ _ h => h), .inr (fun _ _ _ _ _ h => h), .inr (fun _ _ _ _ _ h => h), .inr (fun _ _ _ _ _ h => h), .inr (fun _ _ _ _ _ h => h), .inr (fun _ _ _ _ _ h => h), trivial⟩) ?_ ?_
           ·simp only [List.take_succ_cons, List.take_zero]
            refine ⟨?_, ?_, ?_, ?_, ?_, ?_, ?_, ?_, ?_, ?_, ?_, ?_, ?_, ?_, ?_, trivial⟩
            ·intro ρ w1 L hG hny hfr hd
             obtain ⟨fc, ff⟩ := xF1 hfr
             have f6 : ρ (.tmp 6) = .slice a l c := hfr _ rfl
             refine gives_val (u := .slice a l c) (w' := w1) (by go_simp) ⟨st1_below (by decide) xB1, rfl, xN1, hG.step (by decide) xB1⟩
            ·intro ρ w1 L hG hny hfr hd
             obtain ⟨fc, ff⟩ := xF1 hfr
             have f3 : ρ (.tmp 3) = .pointer (some ⟨w.heap.size + 1, 0, none⟩) := hfr _ rfl
             refine gives_val (u := .pointer (some ⟨w.heap.size + 1, 6, none⟩)) (w' := w1) (by go_simp) ⟨st1_below (by decide) xB1, rfl, xN1, hG.step (by decide) xB1⟩
            ·intro ρ w1 L hG hny hfr hd
             obtain ⟨fc, ff⟩ := xF1 hfr
             obtain ⟨d0, -⟩ := hd
             have d0 : (ρ (.tmp 100)) = .pointer (some ⟨w.heap.size + 1, 6, none⟩) := d0
             have cq := cell_touch hG.2 cq (by show w.heap.size + 1 ∉ A; exact nS)
             refine gives_val (u := .slice (some ⟨b1, o1, none⟩) v.ch.n v.ch.c) (w' := w1) (by go_simp) ⟨st1_below (by decide) xB1, rfl, xN1, hG.step (by decide) xB1⟩
            ·intro ρ w1 L hG hny hfr hd
             obtain ⟨fc, ff⟩ := xF1 hfr
             have f12 : ρ (.tmp 12) = .int .i64 j := hfr _ rfl
             refine gives_val (u := .int .i64 j) (w' := w1) (by go_simp) ⟨st1_below (by decide) xB1, rfl, xN1, hG.step (by decide) xB1⟩
            ·intro ρ w1 L hG hny hfr hd
             obtain ⟨fc, ff⟩ := xF1 hfr
             obtain ⟨d0, d1, -⟩ := hd
             have d0 : (ρ (.tmp 101)) = .slice (some ⟨b1, o1, none⟩) v.ch.n v.ch.c := d0
             have d1 : (ρ (.tmp 102)) = .int .i64 j := d1
             have i2 : (0 : Int) ≤ (j : Int) := by omega
             have i3 : (j : Int) < v.ch.n := by omega
             refine gives_val (u := .pointer (some ⟨b1, o1 + j * 5, none⟩)) (w' := w1) (by go_simp) ⟨st1_below (by decide) xB1, rfl, xN1, hG.step (by decide) xB1⟩
            ·intro ρ w1 L hG hny hfr hd
             obtain ⟨fc, ff⟩ := xF1 hfr
             obtain ⟨d0, -⟩ := hd
             have d0 : (ρ (.tmp 103)) = .pointer (some ⟨b1, o1 + j * 5, none⟩) := d0
             refine gives_val (u := .pointer (some ⟨b1, o1 + j * 5 + 2, none⟩)) (w' := w1) (by go_simp) ⟨st1_below (by decide) xB1, rfl, xN1, hG.step (by decide) xB1⟩
            ·intro ρ w1 L hG hny hfr hd
             obtain ⟨fc, ff⟩ := xF1 hfr
             obtain ⟨d0, -⟩ := hd
             have d0 : (ρ (.tmp 104)) = .pointer (some ⟨b1, o1 + j * 5 + 2, none⟩) := d0
             have cg2 := cell_touch hG.2 cg2 (by show b1 ∉ A; exact nB)
             refine gives_val (u := .slice q.2.1.a q.2.1.n q.2.1.c) (w' := w1) (by go_simp) ⟨st1_below (by decide) xB1, rfl, xN1, hG.step (by decide) xB1⟩
            ·intro ρ w1 L hG hny hfr hd
             obtain ⟨fc, ff⟩ := xF1 hfr
             obtain ⟨d0, -⟩ := hd
             have d0 : (ρ (.tmp 105)) = .slice q.2.1.a q.2.1.n q.2.1.c := d0
             have S1' := S1.out.touch hG.2 (fun _ h => h)
             refine gives_call (by go_simp; exact ⟨⟨rfl, rfl⟩, rfl⟩) ?_
             refine (specThreads5_any x.senders q.2.1.a q.2.1.n q.2.1.c w1 QL1.out.symm (by omega) S1'.rd).mono ?_
             rintro e w2 ⟨a5, c5, rfl, h5, hb⟩
             exact ⟨_, rfl, st1_below (by decide) hb, ⟨a5, c5, rfl, owns_mono h5 hG.2.size⟩, xN1, hG.step (by decide) hb⟩
            ·intro ρ w1 L hG hny hfr hd
             obtain ⟨fc, ff⟩ := xF1 hfr
             obtain ⟨d0, d1, -⟩ := hd
             have d0 : (ρ (.tmp 99)) = .slice a l c := d0
             have d1 : (∃ (a5 : Option Addr) (c5 : Nat), (ρ (.tmp 106)) = .slice a5 q.2.1.n c5 ∧ w1.ownsRow wr.heap.size 3 1 (.slice a5 q.2.1.n c5) q.2.1.n (ints (x.senders.map (·.1)))) := d1
             have hL := hny 8 _ rfl (by kernel_rfl)
             have hbe := hG.1 hL
             have hown := owns_below ho.out hbe
             obtain ⟨a5, c5, d1, h5⟩ := d1
             refine gives_append_keep _ _ 23 rfl Try.underlying23 info_int rfl (by decide) d0 hown d1 HL1.out (Rd.of_owns h5) (ints_one _) (by omega) (by decide) (Nat.le_trans hsw hbe.size) ?_
             intro a' c' w2 hown2 hgr hkeep
             have hT : Touch A w1 w2 := Touch.of_grown hgr (fun q hq => by rw [HHA.out]; simpa using hq)
             exact ⟨st1_own hT, ⟨a', c', rfl, hown2⟩, xN1, hG.own hT⟩
            ·intro ρ w1 L hG hny hfr hd
             obtain ⟨fc, ff⟩ := xF1 hfr
             have f3 : ρ (.tmp 3) = .pointer (some ⟨w.heap.size + 1, 0, none⟩) := hfr _ rfl
             refine gives_val (u := .pointer (some ⟨w.heap.size + 1, 6, none⟩)) (w' := w1) (by go_simp) ⟨st1_below (by decide) xB1, rfl, xN1, hG.step (by decide) xB1⟩
            ·intro ρ w1 L hG hny hfr hd
             obtain ⟨fc, ff⟩ := xF1 hfr
             obtain ⟨d0, -⟩ := hd
             have d0 : (ρ (.tmp 108)) = .pointer (some ⟨w.heap.size + 1, 6, none⟩) := d0
             have cq := cell_touch hG.2 cq (by show w.heap.size + 1 ∉ A; exact nS)
             refine gives_val (u := .slice (some ⟨b1, o1, none⟩) v.ch.n v.ch.c) (w' := w1) (by go_simp) ⟨st1_below (by decide) xB1, rfl, xN1, hG.step (by decide) xB1⟩
            ·intro ρ w1 L hG hny hfr hd
             obtain ⟨fc, ff⟩ := xF1 hfr
             have f12 : ρ (.tmp 12) = .int .i64 j := hfr _ rfl
             refine gives_val (u := .int .i64 j) (w' := w1) (by go_simp) ⟨st1_below (by decide) xB1, rfl, xN1, hG.step (by decide) xB1⟩
            ·intro ρ w1 L hG hny hfr hd
             obtain ⟨fc, ff⟩ := xF1 hfr
             obtain ⟨d0, d1, -⟩ := hd
             have d0 : (ρ (.tmp 109)) = .slice (some ⟨b1, o1, none⟩) v.ch.n v.ch.c := d0
             have d1 : (ρ (.tmp 110)) = .int .i64 j := d1
             have i2 : (0 : Int) ≤ (j : Int) := by omega
             have i3 : (j : Int) < v.ch.n := by omega
             refine gives_val (u := .pointer (some ⟨b1, o1 + j * 5, none⟩)) (w' := w1) (by go_simp) ⟨st1_below (by decide) xB1, rfl, xN1, hG.step (by decide) xB1⟩
            ·intro ρ w1 L hG hny hfr hd
             obtain ⟨fc, ff⟩ := xF1 hfr
             obtain ⟨d0, -⟩ := hd
             have d0 : (ρ (.tmp 111)) = .pointer (some ⟨b1, o1 + j * 5, none⟩) := d0
             refine gives_val (u := .pointer (some ⟨b1, o1 + j * 5 + 3, none⟩)) (w' := w1) (by go_simp) ⟨st1_below (by decide) xB1, rfl, xN1, hG.step (by decide) xB1⟩
            ·intro ρ w1 L hG hny hfr hd
             obtain ⟨fc, ff⟩ := xF1 hfr
             obtain ⟨d0, -⟩ := hd
             have d0 : (ρ (.tmp 112)) = .pointer (some ⟨b1, o1 + j * 5 + 3, none⟩) := d0
             have cg3 := cell_touch hG.2 cg3 (by show b1 ∉ A; exact nB)
             refine gives_val (u := .slice q.2.2.a q.2.2.n q.2.2.c) (w' := w1) (by go_simp) ⟨st1_below (by decide) xB1, rfl, xN1, hG.step (by decide) xB1⟩
           intro vs w2 LL hG hlen hall hap hbd
           obtain ⟨xv0, vs0, rfl, hl0⟩ := len_cons hlen
           obtain ⟨xv1, vs1, rfl, hl1⟩ := len_cons hl0
           obtain ⟨xv2, vs2, rfl, hl2⟩ := len_cons hl1
           obtain ⟨xv3, vs3, rfl, hl3⟩ := len_cons hl2
           obtain ⟨xv4, vs4, rfl, hl4⟩ := len_cons hl3
           obtain ⟨xv5, vs5, rfl, hl5⟩ := len_cons hl4
           obtain ⟨xv6, vs6, rfl, hl6⟩ := len_cons hl5
           obtain ⟨xv7, vs7, rfl, hl7⟩ := len_cons hl6
           obtain ⟨xv8, vs8, rfl, hl8⟩ := len_cons hl7
           obtain ⟨xv9, vs9, rfl, hl9⟩ := len_cons hl8
           obtain ⟨xv10, vs10, rfl, hl10⟩ := len_cons hl9
           obtain ⟨xv11, vs11, rfl, hl11⟩ := len_cons hl10
           obtain ⟨xv12, vs12, rfl, hl12⟩ := len_cons hl11
           obtain ⟨xv13, vs13, rfl, hl13⟩ := len_cons hl12
           obtain ⟨xv14, vs14, rfl, hl14⟩ := len_cons hl13
           obtain rfl := len_nil hl14
           clear hlen hl0 hl1 hl2 hl3 hl4 hl5 hl6 hl7 hl8 hl9 hl10 hl11 hl12 hl13 hl14
           simp only [List.take_succ_cons, List.take_zero, List.drop_succ_cons, List.drop_zero] at hall ⊢
           obtain ⟨t0', t1', t2', t3', t4', t5', t6', t7', t8', t9', t10', t11', t12', t13', t14', -⟩ := hall
           have hv0 : xv0 = .slice a l c := t0'
           have hv1 : xv1 = .pointer (some ⟨w.heap.size + 1, 6, none⟩) := t1'
           have hv2 : xv2 = .slice (some ⟨b1, o1, none⟩) v.ch.n v.ch.c := t2'
           have hv3 : xv3 = .int .i64 j := t3'
           have hv4 : xv4 = .pointer (some ⟨b1, o1 + j * 5, none⟩) := t4'
           have hv5 : xv5 = .pointer (some ⟨b1, o1 + j * 5 + 2, none⟩) := t5'
           have hv6 : xv6 = .slice q.2.1.a q.2.1.n q.2.1.c := t6'
           have hv7 : (∃ (a5 : Option Addr) (c5 : Nat), xv7 = .slice a5 q.2.1.n c5 ∧ w2.ownsRow wr.heap.size 3 1 (.slice a5 q.2.1.n c5) q.2.1.n (ints (x.senders.map (·.1)))) := t7'
           have hv8 : (∃ (a6 : Option Addr) (c6 : Nat), xv8 = .slice a6 (l + q.2.1.n) c6 ∧ w2.ownsRow (w.heap.size + 2) 3 1 (.slice a6 (l + q.2.1.n) c6) (l + q.2.1.n) (ints (allE (semT s) v.se.n ++ allE (onT s) v.on.n ++ allE (grT s) v.gr.n ++ allE (baT s) v.ba.n ++ allE (chT s) j) ++ ints (x.senders.map (·.1)))) := t8'
           have hv9 : xv9 = .pointer (some ⟨w.heap.size + 1, 6, none⟩) := t9'
           have hv10 : xv10 = .slice (some ⟨b1, o1, none⟩) v.ch.n v.ch.c := t10'
           have hv11 : xv11 = .int .i64 j := t11'
           have hv12 : xv12 = .pointer (some ⟨b1, o1 + j * 5, none⟩) := t12'
           have hv13 : xv13 = .pointer (some ⟨b1, o1 + j * 5 + 3, none⟩) := t13'
           have hv14 : xv14 = .slice q.2.2.a q.2.2.n q.2.2.c := t14'
           clear t0' t1' t2' t3' t4' t5' t6' t7' t8' t9' t10' t11' t12' t13' t14'
           clear hap hbd
           subst hv0 hv1 hv2 hv3 hv4 hv5 hv6 hv9 hv10 hv11 hv12 hv13 hv14
           obtain ⟨_, _, rfl, -⟩ := hv7
           obtain ⟨a6, c6, rfl, h6o⟩ := hv8
           simp only [putAll, Act.put, List.setIfInBounds_toArray, List.set_cons_succ, List.set_cons_zero]
           have S2' := xH1 (S2.out.touch hG.2 (fun _ h => h)).rd
           have hs2 : w.heap.size + 2 ≤ w2.heap.size := Nat.le_trans hsw hG.2.size
           have hBT : Below (w.heap.size + 2) W0 w2 := hb0.trans (hG.2.below hsw (fun k hk => (HAB.out k hk).1))
           have HO6 := xH1 h6o
           clear h6o
           go_wp2_with (at_builtin; refine wpList_append_rd (news := ints x.getters) rfl _ _ 23 rfl Try.underlying23 info_int rfl (by decide) rfl HO6.out rfl HL2.out S2'.out (ints_one _) (by omega) (by decide) hs2 ?_; intro a3 c3 w3 ho3 hg3; have HO3 := xH1 ho3; have HG3 := xH1 hg3; clear ho3 hg3)
           go_roundw
           case rel => exact ⟨j + 1, a3, l + q.2.1.n + q.2.2.n, c3, by omega, by go_num, rfl, xH1 (by
            have e : ints (allE (semT s) v.se.n ++ allE (onT s) v.on.n ++ allE (grT s) v.gr.n ++ allE (baT s) v.ba.n ++ allE (chT s) (j + 1)) = ints (allE (semT s) v.se.n ++ allE (onT s) v.on.n ++ allE (grT s) v.gr.n ++ allE (baT s) v.ba.n ++ allE (chT s) j) ++ ints (x.senders.map (·.1)) ++ ints x.getters := by
             rw [← List.map_append, ← List.map_append, HX.out]
             simp only [allE, List.append_assoc]
             rfl
            rw [e]; exact HO3.out), by omega, hBT.trans (below_of_grown HG3.out hs2 (fun q hq => (owns_row HO6.out q hq).1))⟩
           case measure => simp [intOf]; omega
        ·have hjs : j < s.bars.length := by have := Lba.out; omega
         obtain ⟨x, q, b1, o1, HX, ea, g0, g1, g2, Q0, QL0, QC0⟩ := HS.out.at_ba (j := j) hjs
         have hok := (HF.out.ba j hjs).1
         rw [← HX.out] at hok
         rw [ea] at cq
         have i0' : (0 : Int) ≤ (j : Int) := by omega
         have i1 : (j : Int) < v.ba.n := by omega
         clear ea hjs
         have hq6 : q.n ≤ 6 := by rw [QL0.out]; exact hok.2.2.1.1
         have cg := keepc hbw g2
         have RQ := xH1 (Q0.out.below hbw)
         have HLQ : Hid ((ints x.waits).length = q.n * 1) := xH1 (by rw [List.length_map, QL0.out, Nat.mul_one])
         clear hok g0 g1 g2
         go_wp2_with (at_builtin; refine wpList_append_rd (news := ints x.waits) rfl _ _ 23 rfl Try.underlying23 info_int rfl (by decide) rfl ho.out rfl HLQ.out RQ.out (ints_one _) (by omega) (by decide) hsw ?_; intro a3 c3 w3 ho3 hg3; have HO3 := xH1 ho3; have HG3 := xH1 hg3; clear ho3 hg3)
         go_roundw
         case rel => exact ⟨j + 1, a3, l + q.n, c3, by omega, by go_num, rfl, xH1 (by
          have e : ints (allE (semT s) v.se.n ++ allE (onT s) v.on.n ++ allE (grT s) v.gr.n ++ allE (baT s) (j + 1)) = ints (allE (semT s) v.se.n ++ allE (onT s) v.on.n ++ allE (grT s) v.gr.n ++ allE (baT s) j) ++ ints x.waits := by
           rw [← List.map_append, HX.out]
           simp only [allE, List.append_assoc]
           rfl
          rw [e]; exact HO3.out), by omega, hb0.trans (below_of_grown HG3.out hsw (fun q hq => (owns_row ho.out q hq).1))⟩
         case measure => simp [intOf]; omega
      ·have hjs : j < s.groups.length := by have := Lgr.out; omega
       obtain ⟨x, q, b1, o1, HX, ea, g0, g1, Q0, QL0, QC0⟩ := HS.out.at_gr (j := j) hjs
       have hok := HF.out.gr j hjs
       rw [← HX.out] at hok
       rw [ea] at cq
       have i0' : (0 : Int) ≤ (j : Int) := by omega
       have i1 : (j : Int) < v.gr.n := by omega
       clear ea hjs
       have hq6 : q.n ≤ 6 := by rw [QL0.out]; exact hok.2.1.1
       have cg := keepc hbw g1
       have RQ := xH1 (Q0.out.below hbw)
       have HLQ : Hid ((ints x.waits).length = q.n * 1) := xH1 (by rw [List.length_map, QL0.out, Nat.mul_one])
       clear hok g0 g1
       go_wp2_with (at_builtin; refine wpList_append_rd (news := ints x.waits) rfl _ _ 23 rfl Try.underlying23 info_int rfl (by decide) rfl ho.out rfl HLQ.out RQ.out (ints_one _) (by omega) (by decide) hsw ?_; intro a3 c3 w3 ho3 hg3; have HO3 := xH1 ho3; have HG3 := xH1 hg3; clear ho3 hg3)
       go_roundw
       case rel => exact ⟨j + 1, a3, l + q.n, c3, by omega, by go_num, rfl, xH1 (by
        have e : ints (allE (semT s) v.se.n ++ allE (onT s) v.on.n ++ allE (grT s) (j + 1)) = ints (allE (semT s) v.se.n ++ allE (onT s) v.on.n ++ allE (grT s) j) ++ ints x.waits := by
         rw [← List.map_append, HX.out]
         simp only [allE, List.append_assoc]
         rfl
        rw [e]; exact HO3.out), by omega, hb0.trans (below_of_grown HG3.out hsw (fun q hq => (owns_row ho.out q hq).1))⟩
       case measure => simp [intOf]; omega
    ·have hjs : j < s.onces.length := by have := Lon.out; omega
     obtain ⟨x, q, b1, o1, HX, ea, g0, g1, g2, g3, Q0, QL0, QC0⟩ := HS.out.at_on (j := j) hjs
     have hok := HF.out.on j hjs
     rw [← HX.out] at hok
     rw [ea] at cq
     have i0' : (0 : Int) ≤ (j : Int) := by omega
     have i1 : (j : Int) < v.on.n := by omega
     clear ea hjs
     have hq6 : q.n ≤ 6 := by
      rw [QL0.out]
      rcases hok with ⟨-, -, -, h⟩ | ⟨-, -, -, h, -⟩ | ⟨-, -, -, h⟩
      ·rw [h]; simp
      ·exact h.1
      ·rw [h]; simp
     have cg := keepc hbw g3
     have RQ := xH1 (Q0.out.below hbw)
     have HLQ : Hid ((ints x.waits).length = q.n * 1) := xH1 (by rw [List.length_map, QL0.out, Nat.mul_one])
     clear hok g0 g1 g2 g3
     go_wp2_with (at_builtin; refine wpList_append_rd (news := ints x.waits) rfl _ _ 23 rfl Try.underlying23 info_int rfl (by decide) rfl ho.out rfl HLQ.out RQ.out (ints_one _) (by omega) (by decide) hsw ?_; intro a3 c3 w3 ho3 hg3; have HO3 := xH1 ho3; have HG3 := xH1 hg3; clear ho3 hg3)
     go_roundw
     case rel => exact ⟨j + 1, a3, l + q.n, c3, by omega, by go_num, rfl, xH1 (by
      have e : ints (allE (semT s) v.se.n ++ allE (onT s) (j + 1)) = ints (allE (semT s) v.se.n ++ allE (onT s) j) ++ ints x.waits := by
       rw [← List.map_append, HX.out]
       simp only [allE, List.append_assoc]
       rfl
      rw [e]; exact HO3.out), by omega, hb0.trans (below_of_grown HG3.out hsw (fun q hq => (owns_row ho.out q hq).1))⟩
     case measure => simp [intOf]; omega
  ·have hjs : j < s.sems.length := by have := Lse.out; omega
   obtain ⟨x, q, b1, o1, HX, ea, g0, g1, g2, Q0, QL0, QC0⟩ := HS.out.at_se (j := j) hjs
   have hok := (HF.out.se j hjs).1
   rw [← HX.out] at hok
   rw [ea] at cq
   have i0' : (0 : Int) ≤ (j : Int) := by omega
   have i1 : (j : Int) < v.se.n := by omega
   have EA := xH1 ea
   clear ea hjs
   have hq6 : q.n ≤ 6 := by have := hok.2.2.2.1.1; rw [List.length_map] at this; rw [QL0.out]; exact this
   obtain ⟨xb, xo, hxa⟩ : ∃ xb xo, 0 < q.n → q.a = some ⟨xb, xo, none⟩ ∧ ∀ k, k < x.queue.length → w.cell? ⟨xb, xo + k * 2, none⟩ = some (.int .i64 (x.queue.getD k (0, 0)).1) := by
    by_cases h0 : 0 < q.n
    ·obtain ⟨xb, xo, e, h⟩ := Q0.out.pair (by have := QL0.out; omega)
     exact ⟨xb, xo, fun _ => ⟨e, fun k hk => (h k hk).1⟩⟩
    ·exact ⟨0, 0, fun h => absurd h h0⟩
   have HXA := xH1 hxa
   have cg := keepc hbw g2
   clear hxa hok g0 g1
   go_wp2
   go_loopw [8, 6] (fun i z wq => ∃ (k : Nat) (a2 : Option Addr) (l2 c2 : Nat), k ≤ q.n ∧ i = .int .i64 k ∧ z = .slice a2 l2 c2 ∧ Hid (wq.ownsRow (w.heap.size + 2) 3 1 (.slice a2 l2 c2) l2 (ints (allE (semT s) j ++ (x.queue.take k).map (·.1)))) ∧ Hid (l2 = l + k) ∧ l2 ≤ l + 6 ∧ Below (w.heap.size + 2) W0 wq) (fun i _ _ => q.n - (intOf i).toNat)
   case atStart => exact ⟨0, a, l, c, by omega, rfl, rfl, by simpa using ho, xH1 rfl, by omega, hb0⟩
   case round =>
    obtain ⟨k, a2, l2, c2, hk, rfl, rfl, ho2, HL2, hl2, hb2⟩ := hrel
    have cq2 := keepB hb2 (by show w.heap.size + 1 < w.heap.size + 2; omega) q2
    rw [show v.se.a = some ⟨b1, o1, none⟩ from EA.out] at cq2
    have hbw2 := HB.out.trans (hb2.mono (by omega))
    have cg2 := keepc hbw2 g2
    have hs2 : w.heap.size + 2 ≤ wr.heap.size := by have := hb2.size; omega
    by_cases hkl : k < q.n
    ·obtain ⟨eqa, hcell⟩ := HXA.out (by omega)
     obtain ⟨t, et⟩ : ∃ t, t = (x.queue.getD k (0, 0)).1 := ⟨_, rfl⟩
     have ct := keepc hbw2 (hcell k (by have := QL0.out; omega))
     rw [← et] at ct
     rw [eqa] at cg2
     have i2 : (0 : Int) ≤ (k : Int) := by omega
     have i3 : (k : Int) < (q.n : Int) := by omega
     have ET := xH1 et
     clear hcell et eqa
     go_wp2_with (at_builtin; refine wpList_append_sl (m := 1) (cm := 1) (news := [.int .i64 t]) rfl _ _ 23 rfl Try.underlying23 info_int rfl (by decide) rfl ho2.out rfl rfl rfl (by simp [Value.oneCell']) (by omega) (by decide) hs2 ?_; intro a3 c3 w3 ho3 hg3; have HO3 := xH1 ho3; have HG3 := xH1 hg3; clear ho3 hg3)
     go_roundw
     case rel => exact ⟨k + 1, a3, l2 + 1, c3, by omega, by go_num, rfl, xH1 (by
      have e : ints (allE (semT s) j ++ (x.queue.take (k + 1)).map (·.1)) = ints (allE (semT s) j ++ (x.queue.take k).map (·.1)) ++ [.int .i64 t] := by
       rw [← take_snoc _ (0, 0) (show k < x.queue.length by have := QL0.out; omega), List.map_append, ← List.append_assoc]
       simp [ints, ET.out]
      rw [e]; exact HO3.out), xH1 (by have := HL2.out; omega), by have := HL2.out; omega, hb2.trans (below_of_grown HG3.out hs2 (fun q hq => (owns_row ho2.out q hq).1))⟩
     case measure => simp [intOf]; omega
    ·have hkq : k = q.n := by omega
     subst hkq
     go_wp2
     go_roundw
     case rel => exact ⟨j + 1, a2, l2, c2, by omega, by go_num, rfl, xH1 (by
      have e : allE (semT s) (j + 1) = allE (semT s) j ++ (x.queue.take q.n).map (·.1) := by
       rw [allE, QL0.out, List.take_length]
       show _ ++ (s.sems.getD j noSem).queue.map (·.1) = _
       rw [← HX.out]
      rw [e]; exact ho2.out), by have := HL2.out; omega, hb2⟩
     case measure => simp [intOf]; omega
end Go.Proofs.Ytfpgijihiifogaa
