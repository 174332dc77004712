/- Part of a proof: MWaits. -/
import Derived.Deep.Cut
import Derived.Test.YtfpgijihiifogaaQMQueued
set_option maxRecDepth 100000
set_option maxHeartbeats 16000000
namespace Go.Proofs.Ytfpgijihiifogaa
open Go.RowKit Go.Sort
theorem mem_ents {s : StD} {e : Ent} (h : e ∈ ents s) :
  (e.2.1 = 2 ∧ ∃ i, i < s.sems.length ∧ e.2.2.1 = i ∧ (e.1, e.2.2.2) ∈ (s.sems.getD i noSem).queue) ∨ (e.2.1 = 4 ∧ ∃ i, i < s.onces.length ∧ e.2.2.1 = i ∧ e.1 ∈ (s.onces.getD i noOnce).waits) ∨
  (e.2.1 = 6 ∧ ∃ i, i < s.groups.length ∧ e.2.2.1 = i ∧ e.1 ∈ (s.groups.getD i noGrp).waits) ∨ (e.2.1 = 7 ∧ ∃ i, i < s.bars.length ∧ e.2.2.1 = i ∧ e.1 ∈ (s.bars.getD i noBar).waits) ∨
  (e.2.1 = 8 ∧ ∃ i, i < s.chans.length ∧ e.2.2.1 = i ∧ (e.1, e.2.2.2) ∈ (s.chans.getD i noChn).senders) ∨ (e.2.1 = 9 ∧ ∃ i, i < s.chans.length ∧ e.2.2.1 = i ∧ e.1 ∈ (s.chans.getD i noChn).getters) := by
 unfold ents at h
 rcases xP1 h with h | h
 ·obtain ⟨i, hi, h⟩ := mem_allE.1 h
  obtain ⟨w, hw, rfl⟩ := List.mem_map.1 h
  exact .inl ⟨rfl, i, hi, rfl, hw⟩
 rcases xP1 h with h | h
 ·obtain ⟨i, hi, h⟩ := mem_allE.1 h
  obtain ⟨w, hw, rfl⟩ := List.mem_map.1 h
  exact .inr (.inl ⟨rfl, i, hi, rfl, hw⟩)
 rcases xP1 h with h | h
 ·obtain ⟨i, hi, h⟩ := mem_allE.1 h
  obtain ⟨w, hw, rfl⟩ := List.mem_map.1 h
  exact .inr (.inr (.inl ⟨rfl, i, hi, rfl, hw⟩))
 rcases xP1 h with h | h
 ·obtain ⟨i, hi, h⟩ := mem_allE.1 h
  obtain ⟨w, hw, rfl⟩ := List.mem_map.1 h
  exact .inr (.inr (.inr (.inl ⟨rfl, i, hi, rfl, hw⟩)))
 ·obtain ⟨i, hi, h⟩ := mem_allE.1 h
  rcases xP1 h with h | h
  ·obtain ⟨w, hw, rfl⟩ := List.mem_map.1 h
   exact .inr (.inr (.inr (.inr (.inl ⟨rfl, i, hi, rfl, hw⟩))))
  ·obtain ⟨w, hw, rfl⟩ := List.mem_map.1 h
   exact .inr (.inr (.inr (.inr (.inr ⟨rfl, i, hi, rfl, hw⟩))))
theorem find_pair {l : List (Int × Int)} {t c : Int} (hn : (l.map (·.1)).Nodup) (hm : (t, c) ∈ l) : ∃ i : Nat, i < l.length ∧ findI (l.map (·.1)) t = i ∧ l.getD i (0, 0) = (t, c) := by
 obtain ⟨i, hi, e⟩ := List.mem_iff_getElem.1 hm
 have e2 : l.getD i (0, 0) = (t, c) := by rw [List.getD_eq_getElem?_getD, List.getElem?_eq_getElem hi]; exact e
 have e3 : (l.map (·.1)).getD i 0 = t := by
  rw [List.getD_eq_getElem?_getD, List.getElem?_eq_getElem (by rw [List.length_map]; exact hi), List.getElem_map]
  show (l[i]).1 = t
  rw [e]
 refine ⟨i, hi, findI_at (by rw [List.length_map]; exact hi) e3 (fun j hj h => ?_), e2⟩
 exact nodup_getD hn (by rw [List.length_map]; exact hi) hj (h.trans e3.symm)
theorem specWaits7_ok (p : Pg) (v : StV) (L : StL) (s : StD) (o : OpD) (t : Int) (w : World) (hr : StR w v L s) (hf : Fits p s) (hw : want o t ∈ ents s) :
  Calls Try.prog 82 #[.agg #[.slice v.pl.a v.pl.n v.pl.c, .slice v.st.a v.st.n v.st.c, .slice v.se.a v.se.n v.se.c, .slice v.on.a v.on.n v.on.c, .slice v.gr.a v.gr.n v.gr.c, .slice v.ba.a v.ba.n v.ba.c, .slice v.ch.a v.ch.n v.ch.c, .slice v.sa.a v.sa.n v.sa.c, .int .i64 v.fl], .agg #[.int .i64 o.kind, .int .i64 o.on, .int .i64 o.arg], .int .i64 t] w fun e w' => e = .returned (.bool true) ∧ Below w.heap.size w w' := by
 have HS := xH1 hr
 have HF := xH1 hf
 obtain ⟨kind, on, arg⟩ := o
 have Lse := xH1 hr.se.len
 have Lon := xH1 hr.on.len
 have Lgr := xH1 hr.gr.len
 have Lba := xH1 hr.ba.len
 have Lch := xH1 hr.ch.len
 have hm := mem_ents hw
 unfold want at hm
 dsimp only at hm
 clear hr hf hw
 rcases hm with ⟨rfl, i, hi, rfl, hq⟩ | ⟨rfl, i, hi, rfl, hq⟩ | ⟨rfl, i, hi, rfl, hq⟩ | ⟨rfl, i, hi, rfl, hq⟩ | ⟨rfl, i, hi, rfl, hq⟩ | ⟨rfl, i, hi, rfl, hq⟩
 ·have hq' : (t, arg) ∈ (s.sems.getD i noSem).queue := by simpa using hq
  obtain ⟨x, q, b1, o1, HX, ea, g0, g1, g2, Q0, QL0, QC0⟩ := HS.out.at_se (j := i) hi
  have hok := (HF.out.se i hi).1
  rw [← HX.out] at hok hq hq'
  obtain ⟨W0, hW0⟩ : ∃ W0 : World, W0 = ((w.alloc (.cells #[.slice v.pl.a v.pl.n v.pl.c, .slice v.st.a v.st.n v.st.c, .slice v.se.a v.se.n v.se.c, .slice v.on.a v.on.n v.on.c, .slice v.gr.a v.gr.n v.gr.c, .slice v.ba.a v.ba.n v.ba.c, .slice v.ch.a v.ch.n v.ch.c, .slice v.sa.a v.sa.n v.sa.c, .int .i64 v.fl] 44)).alloc (.cells #[.int .i64 2, .int .i64 i, .int .i64 arg] 61)) := ⟨_, rfl⟩
  have B0 : Below w.heap.size w W0 := by
   rw [hW0]
   exact ((xB1.alloc (by simp) _).alloc (by simp) _)
  have kS : Blk W0 (w.heap.size) #[.slice v.pl.a v.pl.n v.pl.c, .slice v.st.a v.st.n v.st.c, .slice v.se.a v.se.n v.se.c, .slice v.on.a v.on.n v.on.c, .slice v.gr.a v.gr.n v.gr.c, .slice v.ba.a v.ba.n v.ba.c, .slice v.ch.a v.ch.n v.ch.c, .slice v.sa.a v.sa.n v.sa.c, .int .i64 v.fl] 44 := by
   rw [hW0]
   have h := Blk.new w #[.slice v.pl.a v.pl.n v.pl.c, .slice v.st.a v.st.n v.st.c, .slice v.se.a v.se.n v.se.c, .slice v.on.a v.on.n v.on.c, .slice v.gr.a v.gr.n v.gr.c, .slice v.ba.a v.ba.n v.ba.c, .slice v.ch.a v.ch.n v.ch.c, .slice v.sa.a v.sa.n v.sa.c, .int .i64 v.fl] 44
   exact h |>.alloc _
  have kO : Blk W0 (w.heap.size + 1) #[.int .i64 2, .int .i64 i, .int .i64 arg] 61 := by
   rw [hW0]
   have h := Blk.new (w.alloc (.cells #[.slice v.pl.a v.pl.n v.pl.c, .slice v.st.a v.st.n v.st.c, .slice v.se.a v.se.n v.se.c, .slice v.on.a v.on.n v.on.c, .slice v.gr.a v.gr.n v.gr.c, .slice v.ba.a v.ba.n v.ba.c, .slice v.ch.a v.ch.n v.ch.c, .slice v.sa.a v.sa.n v.sa.c, .int .i64 v.fl] 44)) #[.int .i64 2, .int .i64 i, .int .i64 arg] 61
   simp only [World.size_alloc] at h
   exact h
  have hS0 : W0.heap.size = w.heap.size + 2 := by rw [hW0]; simp
  have cq := kS.cell 2 rfl
  have o0 := kO.cell 0 rfl
  have o1' := kO.cell 1 rfl
  have o2 := kO.cell 2 rfl
  rw [ea] at cq
  have HB := xH1 B0
  have i0 : (0 : Int) ≤ (i : Int) := by omega
  have i1 : (i : Int) < v.se.n := by have := Lse.out; omega
  replace g0 := keepc B0 g0
  replace g1 := keepc B0 g1
  replace g2 := keepc B0 g2
  replace Q0 := xH1 (Q0.out.below B0)
  clear kS kO ea hi B0
  obtain ⟨f, hf, hfi, hfq⟩ := find_pair hok.2.2.2.1.2.2 hq'
  have hq6 := hok.2.2.2.1.1
  rw [List.length_map] at hq6
  have z6 : q.n ≤ 6 := by rw [QL0.out]; exact hq6
  obtain ⟨b3, o3, eqa, hc⟩ := Q0.out.pair (by omega)
  have c2 := (hc f hf).2
  rw [hfq] at c2
  dsimp only at c2
  have HFI := xH1 hfi
  have f0 : (0 : Int) ≤ (f : Int) := by omega
  have f1 : (f : Int) < (q.n : Int) := by have := QL0.out; omega
  have t0 : (arg == arg) = true := by simp
  rw [eqa] at g2
  clear hc hfq hq hq' hok hq6 hfi
  go_enter Try.func82, Try.ntmps82
  go_upto_region 1 with fail
  rw [← hW0]
  clear hW0
  go_wp2_with fail
  refine (specFind_any (some ⟨b3, o3, none⟩) q.n q.c x.queue t _ QL0.out.symm (by unfold maxLen; omega) (by rw [← eqa]; exact Q0.out)).mono ?_
  rintro e w1 ⟨rfl, hw1⟩
  have hw1' := hw1.symm
  subst hw1'
  rw [HFI.out]
  clear eqa hf
  go_wp2
  go_quiet (fail)
  go_wp2
  go_ret
  exact ⟨rfl, below_drewN HB.out _⟩
 ·obtain ⟨x, q, b1, o1, HX, ea, g0, g1, g2, g3, Q0, QL0, QC0⟩ := HS.out.at_on (j := i) hi
  have hok := HF.out.on i hi
  rw [← HX.out] at hok hq
  obtain ⟨W0, hW0⟩ : ∃ W0 : World, W0 = ((w.alloc (.cells #[.slice v.pl.a v.pl.n v.pl.c, .slice v.st.a v.st.n v.st.c, .slice v.se.a v.se.n v.se.c, .slice v.on.a v.on.n v.on.c, .slice v.gr.a v.gr.n v.gr.c, .slice v.ba.a v.ba.n v.ba.c, .slice v.ch.a v.ch.n v.ch.c, .slice v.sa.a v.sa.n v.sa.c, .int .i64 v.fl] 44)).alloc (.cells #[.int .i64 4, .int .i64 i, .int .i64 arg] 61)) := ⟨_, rfl⟩
  have B0 : Below w.heap.size w W0 := by
   rw [hW0]
   exact ((xB1.alloc (by simp) _).alloc (by simp) _)
  have kS : Blk W0 (w.heap.size) #[.slice v.pl.a v.pl.n v.pl.c, .slice v.st.a v.st.n v.st.c, .slice v.se.a v.se.n v.se.c, .slice v.on.a v.on.n v.on.c, .slice v.gr.a v.gr.n v.gr.c, .slice v.ba.a v.ba.n v.ba.c, .slice v.ch.a v.ch.n v.ch.c, .slice v.sa.a v.sa.n v.sa.c, .int .i64 v.fl] 44 := by
   rw [hW0]
   have h := Blk.new w #[.slice v.pl.a v.pl.n v.pl.c, .slice v.st.a v.st.n v.st.c, .slice v.se.a v.se.n v.se.c, .slice v.on.a v.on.n v.on.c, .slice v.gr.a v.gr.n v.gr.c, .slice v.ba.a v.ba.n v.ba.c, .slice v.ch.a v.ch.n v.ch.c, .slice v.sa.a v.sa.n v.sa.c, .int .i64 v.fl] 44
   exact h |>.alloc _
  have kO : Blk W0 (w.heap.size + 1) #[.int .i64 4, .int .i64 i, .int .i64 arg] 61 := by
   rw [hW0]
   have h := Blk.new (w.alloc (.cells #[.slice v.pl.a v.pl.n v.pl.c, .slice v.st.a v.st.n v.st.c, .slice v.se.a v.se.n v.se.c, .slice v.on.a v.on.n v.on.c, .slice v.gr.a v.gr.n v.gr.c, .slice v.ba.a v.ba.n v.ba.c, .slice v.ch.a v.ch.n v.ch.c, .slice v.sa.a v.sa.n v.sa.c, .int .i64 v.fl] 44)) #[.int .i64 4, .int .i64 i, .int .i64 arg] 61
   simp only [World.size_alloc] at h
   exact h
  have hS0 : W0.heap.size = w.heap.size + 2 := by rw [hW0]; simp
  have cq := kS.cell 3 rfl
  have o0 := kO.cell 0 rfl
  have o1' := kO.cell 1 rfl
  have o2 := kO.cell 2 rfl
  rw [ea] at cq
  have HB := xH1 B0
  have i0 : (0 : Int) ≤ (i : Int) := by omega
  have i1 : (i : Int) < v.on.n := by have := Lon.out; omega
  replace g0 := keepc B0 g0
  replace g1 := keepc B0 g1
  replace g2 := keepc B0 g2
  replace g3 := keepc B0 g3
  replace Q0 := xH1 (Q0.out.below B0)
  clear kS kO ea hi B0
  have hq6 : x.waits.length ≤ 6 := by
   rcases hok with ⟨-, -, -, h⟩ | ⟨-, -, -, h, -⟩ | ⟨-, -, -, h⟩
   ·rw [h]; simp
   ·exact h.1
   ·rw [h]; simp
  have z6 : q.n ≤ 6 := by rw [QL0.out]; exact hq6
  obtain ⟨f, hf⟩ : ∃ f, f = findI x.waits t := ⟨_, rfl⟩
  have f0 : 0 ≤ f := by rw [hf]; exact (findI_mem hq).1
  have HFI := xH1 hf
  clear hok hq hq6 hf
  go_enter Try.func82, Try.ntmps82
  go_upto_region 1 with fail
  rw [← hW0]
  clear hW0
  go_wp2_with fail
  refine (specAt_any q.a q.n q.c x.waits t _ QL0.out.symm (by unfold maxLen; omega) Q0.out).mono ?_
  rintro e w2 ⟨rfl, hw1⟩
  have hw1' := hw1.symm
  subst hw1'
  rw [← HFI.out]
  go_wp2
  go_ret
  exact ⟨rfl, HB.out⟩
 ·obtain ⟨x, q, b1, o1, HX, ea, g0, g1, Q0, QL0, QC0⟩ := HS.out.at_gr (j := i) hi
  have hok := HF.out.gr i hi
  rw [← HX.out] at hok hq
  obtain ⟨W0, hW0⟩ : ∃ W0 : World, W0 = ((w.alloc (.cells #[.slice v.pl.a v.pl.n v.pl.c, .slice v.st.a v.st.n v.st.c, .slice v.se.a v.se.n v.se.c, .slice v.on.a v.on.n v.on.c, .slice v.gr.a v.gr.n v.gr.c, .slice v.ba.a v.ba.n v.ba.c, .slice v.ch.a v.ch.n v.ch.c, .slice v.sa.a v.sa.n v.sa.c, .int .i64 v.fl] 44)).alloc (.cells #[.int .i64 6, .int .i64 i, .int .i64 arg] 61)) := ⟨_, rfl⟩
  have B0 : Below w.heap.size w W0 := by
   rw [hW0]
   exact ((xB1.alloc (by simp) _).alloc (by simp) _)
  have kS : Blk W0 (w.heap.size) #[.slice v.pl.a v.pl.n v.pl.c, .slice v.st.a v.st.n v.st.c, .slice v.se.a v.se.n v.se.c, .slice v.on.a v.on.n v.on.c, .slice v.gr.a v.gr.n v.gr.c, .slice v.ba.a v.ba.n v.ba.c, .slice v.ch.a v.ch.n v.ch.c, .slice v.sa.a v.sa.n v.sa.c, .int .i64 v.fl] 44 := by
   rw [hW0]
   have h := Blk.new w #[.slice v.pl.a v.pl.n v.pl.c, .slice v.st.a v.st.n v.st.c, .slice v.se.a v.se.n v.se.c, .slice v.on.a v.on.n v.on.c, .slice v.gr.a v.gr.n v.gr.c, .slice v.ba.a v.ba.n v.ba.c, .slice v.ch.a v.ch.n v.ch.c, .slice v.sa.a v.sa.n v.sa.c, .int .i64 v.fl] 44
   exact h |>.alloc _
  have kO : Blk W0 (w.heap.size + 1) #[.int .i64 6, .int .i64 i, .int .i64 arg] 61 := by
   rw [hW0]
   have h := Blk.new (w.alloc (.cells #[.slice v.pl.a v.pl.n v.pl.c, .slice v.st.a v.st.n v.st.c, .slice v.se.a v.se.n v.se.c, .slice v.on.a v.on.n v.on.c, .slice v.gr.a v.gr.n v.gr.c, .slice v.ba.a v.ba.n v.ba.c, .slice v.ch.a v.ch.n v.ch.c, .slice v.sa.a v.sa.n v.sa.c, .int .i64 v.fl] 44)) #[.int .i64 6, .int .i64 i, .int .i64 arg] 61
   simp only [World.size_alloc] at h
   exact h
  have hS0 : W0.heap.size = w.heap.size + 2 := by rw [hW0]; simp
  have cq := kS.cell 4 rfl
  have o0 := kO.cell 0 rfl
  have o1' := kO.cell 1 rfl
  have o2 := kO.cell 2 rfl
  rw [ea] at cq
  have HB := xH1 B0
  have i0 : (0 : Int) ≤ (i : Int) := by omega
  have i1 : (i : Int) < v.gr.n := by have := Lgr.out; omega
  replace g0 := keepc B0 g0
  replace g1 := keepc B0 g1
  replace Q0 := xH1 (Q0.out.below B0)
  clear kS kO ea hi B0
  have hq6 : x.waits.length ≤ 6 := hok.2.1.1
  have z6 : q.n ≤ 6 := by rw [QL0.out]; exact hq6
  obtain ⟨f, hf⟩ : ∃ f, f = findI x.waits t := ⟨_, rfl⟩
  have f0 : 0 ≤ f := by rw [hf]; exact (findI_mem hq).1
  have HFI := xH1 hf
  clear hok hq hq6 hf
  go_enter Try.func82, Try.ntmps82
  go_upto_region 1 with fail
  rw [← hW0]
  clear hW0
  go_wp2_with fail
  refine (specAt_any q.a q.n q.c x.waits t _ QL0.out.symm (by unfold maxLen; omega) Q0.out).mono ?_
  rintro e w2 ⟨rfl, hw1⟩
  have hw1' := hw1.symm
  subst hw1'
  rw [← HFI.out]
  go_wp2
  go_ret
  exact ⟨rfl, HB.out⟩
 ·obtain ⟨x, q, b1, o1, HX, ea, g0, g1, g2, Q0, QL0, QC0⟩ := HS.out.at_ba (j := i) hi
  have hok := (HF.out.ba i hi).1
  rw [← HX.out] at hok hq
  obtain ⟨W0, hW0⟩ : ∃ W0 : World, W0 = ((w.alloc (.cells #[.slice v.pl.a v.pl.n v.pl.c, .slice v.st.a v.st.n v.st.c, .slice v.se.a v.se.n v.se.c, .slice v.on.a v.on.n v.on.c, .slice v.gr.a v.gr.n v.gr.c, .slice v.ba.a v.ba.n v.ba.c, .slice v.ch.a v.ch.n v.ch.c, .slice v.sa.a v.sa.n v.sa.c, .int .i64 v.fl] 44)).alloc (.cells #[.int .i64 7, .int .i64 i, .int .i64 arg] 61)) := ⟨_, rfl⟩
  have B0 : Below w.heap.size w W0 := by
   rw [hW0]
   exact ((xB1.alloc (by simp) _).alloc (by simp) _)
  have kS : Blk W0 (w.heap.size) #[.slice v.pl.a v.pl.n v.pl.c, .slice v.st.a v.st.n v.st.c, .slice v.se.a v.se.n v.se.c, .slice v.on.a v.on.n v.on.c, .slice v.gr.a v.gr.n v.gr.c, .slice v.ba.a v.ba.n v.ba.c, .slice v.ch.a v.ch.n v.ch.c, .slice v.sa.a v.sa.n v.sa.c, .int .i64 v.fl] 44 := by
   rw [hW0]
   have h := Blk.new w #[.slice v.pl.a v.pl.n v.pl.c, .slice v.st.a v.st.n v.st.c, .slice v.se.a v.se.n v.se.c, .slice v.on.a v.on.n v.on.c, .slice v.gr.a v.gr.n v.gr.c, .slice v.ba.a v.ba.n v.ba.c, .slice v.ch.a v.ch.n v.ch.c, .slice v.sa.a v.sa.n v.sa.c, .int .i64 v.fl] 44
   exact h |>.alloc _
  have kO : Blk W0 (w.heap.size + 1) #[.int .i64 7, .int .i64 i, .int .i64 arg] 61 := by
   rw [hW0]
   have h := Blk.new (w.alloc (.cells #[.slice v.pl.a v.pl.n v.pl.c, .slice v.st.a v.st.n v.st.c, .slice v.se.a v.se.n v.se.c, .slice v.on.a v.on.n v.on.c, .slice v.gr.a v.gr.n v.gr.c, .slice v.ba.a v.ba.n v.ba.c, .slice v.ch.a v.ch.n v.ch.c, .slice v.sa.a v.sa.n v.sa.c, .int .i64 v.fl] 44)) #[.int .i64 7, .int .i64 i, .int .i64 arg] 61
   simp only [World.size_alloc] at h
   exact h
  have hS0 : W0.heap.size = w.heap.size + 2 := by rw [hW0]; simp
  have cq := kS.cell 5 rfl
  have o0 := kO.cell 0 rfl
  have o1' := kO.cell 1 rfl
  have o2 := kO.cell 2 rfl
  rw [ea] at cq
  have HB := xH1 B0
  have i0 : (0 : Int) ≤ (i : Int) := by omega
  have i1 : (i : Int) < v.ba.n := by have := Lba.out; omega
  replace g0 := keepc B0 g0
  replace g1 := keepc B0 g1
  replace g2 := keepc B0 g2
  replace Q0 := xH1 (Q0.out.below B0)
  clear kS kO ea hi B0
  have hq6 : x.waits.length ≤ 6 := hok.2.2.1.1
  have z6 : q.n ≤ 6 := by rw [QL0.out]; exact hq6
  obtain ⟨f, hf⟩ : ∃ f, f = findI x.waits t := ⟨_, rfl⟩
  have f0 : 0 ≤ f := by rw [hf]; exact (findI_mem hq).1
  have HFI := xH1 hf
  clear hok hq hq6 hf
  go_enter Try.func82, Try.ntmps82
  go_upto_region 1 with fail
  rw [← hW0]
  clear hW0
  go_wp2_with fail
  refine (specAt_any q.a q.n q.c x.waits t _ QL0.out.symm (by unfold maxLen; omega) Q0.out).mono ?_
  rintro e w2 ⟨rfl, hw1⟩
  have hw1' := hw1.symm
  subst hw1'
  rw [← HFI.out]
  go_wp2
  go_ret
  exact ⟨rfl, HB.out⟩
 ·have hq' : (t, arg) ∈ (s.chans.getD i noChn).senders := by simpa using hq
  obtain ⟨x, q, b1, o1, HX, ea, g0, g1, g2, g3, g4, Q0, QL0, QC0, Q1, QL1, QC1, Q2, QL2, QC2⟩ := HS.out.at_ch (j := i) hi
  have hok := (HF.out.ch i hi).1
  rw [← HX.out] at hok hq hq'
  obtain ⟨W0, hW0⟩ : ∃ W0 : World, W0 = ((w.alloc (.cells #[.slice v.pl.a v.pl.n v.pl.c, .slice v.st.a v.st.n v.st.c, .slice v.se.a v.se.n v.se.c, .slice v.on.a v.on.n v.on.c, .slice v.gr.a v.gr.n v.gr.c, .slice v.ba.a v.ba.n v.ba.c, .slice v.ch.a v.ch.n v.ch.c, .slice v.sa.a v.sa.n v.sa.c, .int .i64 v.fl] 44)).alloc (.cells #[.int .i64 8, .int .i64 i, .int .i64 arg] 61)) := ⟨_, rfl⟩
  have B0 : Below w.heap.size w W0 := by
   rw [hW0]
   exact ((xB1.alloc (by simp) _).alloc (by simp) _)
  have kS : Blk W0 (w.heap.size) #[.slice v.pl.a v.pl.n v.pl.c, .slice v.st.a v.st.n v.st.c, .slice v.se.a v.se.n v.se.c, .slice v.on.a v.on.n v.on.c, .slice v.gr.a v.gr.n v.gr.c, .slice v.ba.a v.ba.n v.ba.c, .slice v.ch.a v.ch.n v.ch.c, .slice v.sa.a v.sa.n v.sa.c, .int .i64 v.fl] 44 := by
   rw [hW0]
   have h := Blk.new w #[.slice v.pl.a v.pl.n v.pl.c, .slice v.st.a v.st.n v.st.c, .slice v.se.a v.se.n v.se.c, .slice v.on.a v.on.n v.on.c, .slice v.gr.a v.gr.n v.gr.c, .slice v.ba.a v.ba.n v.ba.c, .slice v.ch.a v.ch.n v.ch.c, .slice v.sa.a v.sa.n v.sa.c, .int .i64 v.fl] 44
   exact h |>.alloc _
  have kO : Blk W0 (w.heap.size + 1) #[.int .i64 8, .int .i64 i, .int .i64 arg] 61 := by
   rw [hW0]
   have h := Blk.new (w.alloc (.cells #[.slice v.pl.a v.pl.n v.pl.c, .slice v.st.a v.st.n v.st.c, .slice v.se.a v.se.n v.se.c, .slice v.on.a v.on.n v.on.c, .slice v.gr.a v.gr.n v.gr.c, .slice v.ba.a v.ba.n v.ba.c, .slice v.ch.a v.ch.n v.ch.c, .slice v.sa.a v.sa.n v.sa.c, .int .i64 v.fl] 44)) #[.int .i64 8, .int .i64 i, .int .i64 arg] 61
   simp only [World.size_alloc] at h
   exact h
  have hS0 : W0.heap.size = w.heap.size + 2 := by rw [hW0]; simp
  have cq := kS.cell 6 rfl
  have o0 := kO.cell 0 rfl
  have o1' := kO.cell 1 rfl
  have o2 := kO.cell 2 rfl
  rw [ea] at cq
  have HB := xH1 B0
  have i0 : (0 : Int) ≤ (i : Int) := by omega
  have i1 : (i : Int) < v.ch.n := by have := Lch.out; omega
  replace g0 := keepc B0 g0
  replace g1 := keepc B0 g1
  replace g2 := keepc B0 g2
  replace g3 := keepc B0 g3
  replace g4 := keepc B0 g4
  replace Q0 := xH1 (Q0.out.below B0)
  replace Q1 := xH1 (Q1.out.below B0)
  replace Q2 := xH1 (Q2.out.below B0)
  clear kS kO ea hi B0
  obtain ⟨f, hf, hfi, hfq⟩ := find_pair (List.nodup_append.1 (by have := hok.2.2.2.2.1.2.2; exact this)).1 hq'
  have hq6 := hok.2.2.2.2.1.1
  rw [List.length_append, List.length_map] at hq6
  have z6 : q.2.1.n ≤ 6 := by rw [QL1.out]; omega
  obtain ⟨b3, o3, eqa, hc⟩ := Q1.out.pair (by omega)
  have c2 := (hc f hf).2
  rw [hfq] at c2
  dsimp only at c2
  have HFI := xH1 hfi
  have f0 : (0 : Int) ≤ (f : Int) := by omega
  have f1 : (f : Int) < (q.2.1.n : Int) := by have := QL1.out; omega
  have t0 : (arg == arg) = true := by simp
  rw [eqa] at g2
  clear hc hfq hq hq' hok hq6 hfi
  go_enter Try.func82, Try.ntmps82
  go_upto_region 1 with fail
  rw [← hW0]
  clear hW0
  go_wp2_with fail
  refine (specThreads5_any x.senders (some ⟨b3, o3, none⟩) q.2.1.n q.2.1.c _ QL1.out.symm (by omega) (by rw [← eqa]; exact Q1.out)).mono ?_
  rintro e w1 ⟨a4, c4, rfl, ho, hb⟩
  have HO := xH1 (Rd.of_owns ho)
  have HB1 := xH1 (HB.out.trans (hb.mono HB.out.size))
  replace cq := keepc hb cq
  replace o0 := keepc hb o0
  replace o1' := keepc hb o1'
  replace o2 := keepc hb o2
  replace g2 := keepc hb g2
  replace c2 := keepc hb c2
  clear ho hb eqa hf HB g0 g1 g3 g4
  go_wp2_with fail
  refine (specAt_any a4 q.2.1.n c4 (x.senders.map (·.1)) t _ (by rw [List.length_map, QL1.out]) (by unfold maxLen; omega) HO.out).mono ?_
  rintro e w2 ⟨rfl, hw1⟩
  have hw1' := hw1.symm
  subst hw1'
  rw [HFI.out]
  go_wp2
  go_quiet (fail)
  go_wp2
  go_ret
  exact ⟨rfl, below_drewN HB1.out _⟩
 ·obtain ⟨x, q, b1, o1, HX, ea, g0, g1, g2, g3, g4, Q0, QL0, QC0, Q1, QL1, QC1, Q2, QL2, QC2⟩ := HS.out.at_ch (j := i) hi
  have hok := (HF.out.ch i hi).1
  rw [← HX.out] at hok hq
  obtain ⟨W0, hW0⟩ : ∃ W0 : World, W0 = ((w.alloc (.cells #[.slice v.pl.a v.pl.n v.pl.c, .slice v.st.a v.st.n v.st.c, .slice v.se.a v.se.n v.se.c, .slice v.on.a v.on.n v.on.c, .slice v.gr.a v.gr.n v.gr.c, .slice v.ba.a v.ba.n v.ba.c, .slice v.ch.a v.ch.n v.ch.c, .slice v.sa.a v.sa.n v.sa.c, .int .i64 v.fl] 44)).alloc (.cells #[.int .i64 9, .int .i64 i, .int .i64 arg] 61)) := ⟨_, rfl⟩
  have B0 : Below w.heap.size w W0 := by
   rw [hW0]
   exact ((xB1.alloc (by simp) _).alloc (by simp) _)
  have kS : Blk W0 (w.heap.size) #[.slice v.pl.a v.pl.n v.pl.c, .slice v.st.a v.st.n v.st.c, .slice v.se.a v.se.n v.se.c, .slice v.on.a v.on.n v.on.c, .slice v.gr.a v.gr.n v.gr.c, .slice v.ba.a v.ba.n v.ba.c, .slice v.ch.a v.ch.n v.ch.c, .slice v.sa.a v.sa.n v.sa.c, .int .i64 v.fl] 44 := by
   rw [hW0]
   have h := Blk.new w #[.slice v.pl.a v.pl.n v.pl.c, .slice v.st.a v.st.n v.st.c, .slice v.se.a v.se.n v.se.c, .slice v.on.a v.on.n v.on.c, .slice v.gr.a v.gr.n v.gr.c, .slice v.ba.a v.ba.n v.ba.c, .slice v.ch.a v.ch.n v.ch.c, .slice v.sa.a v.sa.n v.sa.c, .int .i64 v.fl] 44
   exact h |>.alloc _
  have kO : Blk W0 (w.heap.size + 1) #[.int .i64 9, .int .i64 i, .int .i64 arg] 61 := by
   rw [hW0]
   have h := Blk.new (w.alloc (.cells #[.slice v.pl.a v.pl.n v.pl.c, .slice v.st.a v.st.n v.st.c, .slice v.se.a v.se.n v.se.c, .slice v.on.a v.on.n v.on.c, .slice v.gr.a v.gr.n v.gr.c, .slice v.ba.a v.ba.n v.ba.c, .slice v.ch.a v.ch.n v.ch.c, .slice v.sa.a v.sa.n v.sa.c, .int .i64 v.fl] 44)) #[.int .i64 9, .int .i64 i, .int .i64 arg] 61
   simp only [World.size_alloc] at h
   exact h
  have hS0 : W0.heap.size = w.heap.size + 2 := by rw [hW0]; simp
  have cq := kS.cell 6 rfl
  have o0 := kO.cell 0 rfl
  have o1' := kO.cell 1 rfl
  have o2 := kO.cell 2 rfl
  rw [ea] at cq
  have HB := xH1 B0
  have i0 : (0 : Int) ≤ (i : Int) := by omega
  have i1 : (i : Int) < v.ch.n := by have := Lch.out; omega
  replace g0 := keepc B0 g0
  replace g1 := keepc B0 g1
  replace g2 := keepc B0 g2
  replace g3 := keepc B0 g3
  replace g4 := keepc B0 g4
  replace Q0 := xH1 (Q0.out.below B0)
  replace Q1 := xH1 (Q1.out.below B0)
  replace Q2 := xH1 (Q2.out.below B0)
  clear kS kO ea hi B0
  have hq6 : x.getters.length ≤ 6 := by
   have := hok.2.2.2.2.1.1
   rw [List.length_append] at this
   omega
  have z6 : q.2.2.n ≤ 6 := by rw [QL2.out]; exact hq6
  obtain ⟨f, hf⟩ : ∃ f, f = findI x.getters t := ⟨_, rfl⟩
  have f0 : 0 ≤ f := by rw [hf]; exact (findI_mem hq).1
  have HFI := xH1 hf
  clear hok hq hq6 hf
  go_enter Try.func82, Try.ntmps82
  go_upto_region 1 with fail
  rw [← hW0]
  clear hW0
  go_wp2_with fail
  refine (specAt_any q.2.2.a q.2.2.n q.2.2.c x.getters t _ QL2.out.symm (by unfold maxLen; omega) Q2.out).mono ?_
  rintro e w2 ⟨rfl, hw1⟩
  have hw1' := hw1.symm
  subst hw1'
  rw [← HFI.out]
  go_wp2
  go_ret
  exact ⟨rfl, HB.out⟩
end Go.Proofs.Ytfpgijihiifogaa
