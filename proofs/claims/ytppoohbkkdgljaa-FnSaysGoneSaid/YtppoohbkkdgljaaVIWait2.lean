/- Part of a proof: IWait2. -/
import Derived.Test.YtppoohbkkdgljaaVPDel
set_option maxRecDepth 100000
set_option maxHeartbeats 16000000
namespace Go.Proofs.Ytppoohbkkdgljaa
open Go.RowKit
theorem zcg {α : Type} (f : Nat → List α) : ∀ {n k : Nat}, k < n → (allE f k ++ f k) <+: allE f n
 | 0, k, h => by omega
 | n + 1, k, h => by
  rcases Nat.lt_or_ge k n with h1 | h1
  ·exact (zcg f h1).trans (List.prefix_append _ _)
  ·obtain rfl : k = n := by omega
   exact List.prefix_refl _
theorem zcI {α : Type} {l es : List (Int × α)} {e : Int × α} (h : (l.map (·.1)).Nodup) (hp : es ++ [e] <+: l) : e.1 ∉ es.map (·.1) := by
 obtain ⟨r, rfl⟩ := hp
 intro hm
 rw [List.map_append, List.map_append, List.append_assoc, List.nodup_append] at h
 exact h.2.2 e.1 hm e.1 (by simp) rfl
abbrev oneC (x : Int) : List Value := [.int .i64 x]
abbrev wfb (w : World) (v : StV) : List It := [.blk (w.heap.size + 2) #[.map (some (w.heap.size + 1))] 143, .blk w.heap.size (svC v) 37]
structure WF (w W : World) (v : StV) (l : List It) (es : List Ent) (os : List (Int × Int)) : Prop where
 fr : Fr w W (l ++ wfb w v)
 wm : WMap entC W (w.heap.size + 1) es
 om : WMap oneC W (w.heap.size + 3) os
theorem WF.call {w W W' : World} {v : StV} {l : List It} {es : List Ent} {os : List (Int × Int)} (h : WF w W v l es os) (hb : Below W.heap.size W W') : WF w W' v l es os := ⟨h.fr.call hb, h.wm.below hb, h.om.below hb⟩
theorem WF.alloc {w W : World} {v : StV} {l : List It} {es : List Ent} {os : List (Int × Int)} (h : WF w W v l es os) (cs : Array Value) (T : TypeId) : WF w (W.alloc (.cells cs T)) v (.blk W.heap.size cs T :: l) es os :=
 ⟨h.fr.alloc cs T, h.wm.below (xA1), h.om.below (xA1)⟩
theorem WF.tail {w W : World} {v : StV} {i : It} {l : List It} {es : List Ent} {os : List (Int × Int)} (h : WF w W v (i :: l) es os) : WF w W v l es os := ⟨h.fr.sub (.cons _ (.refl _)), h.wm, h.om⟩
theorem WF.mapIn {w W : World} {v : StV} {l : List It} {es : List Ent} {os : List (Int × Int)} (h : WF w W v l es os) (B : Nat) (hB : B = w.heap.size + 1 ∨ B = w.heap.size + 3) : w.heap.size ≤ B ∧ B ∉ zZ (l ++ wfb w v) := by
 refine ⟨by omega, fun hm => ?_⟩
 obtain ⟨i, hi, hq⟩ := List.mem_flatMap.1 hm
 have hh := h.fr.has i hi
 have hmap : ∃ L, MapI W B L := by
  rcases hB with rfl | rfl
  ·obtain ⟨Z, _, h2, _⟩ := h.wm; exact ⟨_, h2⟩
  ·obtain ⟨Z, _, h2, _⟩ := h.om; exact ⟨_, h2⟩
 obtain ⟨L, es', clock, hb, _⟩ := hmap
 cases i with
 | blk b cs T =>
  obtain rfl := xS1 hq
  have h9 := hh.2
  unfold Blk at h9
  rw [h9] at hb
  cases hb
 | row a n c E sz cs =>
  have hq' : zi a = some B := by simpa [It.foot] using hq
  obtain ⟨cur, fr, h9⟩ := zff hh B hq'
  rw [h9] at hb
  cases hb
theorem WF.add {w W W' : World} {v : StV} {l : List It} {es es' : List Ent} {os : List (Int × Int)} (h : WF w W v l es os) (hw : WMap entC W' (w.heap.size + 1) es') (hg : W.grownBy W' (some (w.heap.size + 1))) : WF w W' v l es' os := by
 obtain ⟨Z, _, h2, _⟩ := h.wm
 exact ⟨h.fr.other (zm.of_grown (S := [w.heap.size + 1]) hg fun k hk => by cases hk; simp) (fun k hk => by obtain rfl := xS1 hk; exact h.mapIn _ (.inl rfl)), hw, h.om.grown hg (by omega) (fun _ => by simp) h2⟩
theorem WF.own {w W W' : World} {v : StV} {l : List It} {es : List Ent} {os os' : List (Int × Int)} (h : WF w W v l es os) (hw : WMap oneC W' (w.heap.size + 3) os') (hg : W.grownBy W' (some (w.heap.size + 3))) : WF w W' v l es os' := by
 obtain ⟨Z, _, h2, _⟩ := h.om
 exact ⟨h.fr.other (zm.of_grown (S := [w.heap.size + 3]) hg fun k hk => by cases hk; simp) (fun k hk => by obtain rfl := xS1 hk; exact h.mapIn _ (.inr rfl)), h.wm.grown hg (by omega) (fun _ => by simp) h2, hw⟩
theorem zf1 (v : StV) (L : StL) (s : StD) (w : World) (hr : StR w v L s) (hz : SmS s) (hne : (eT s).Nodup) (hno : (oT s).Nodup) :
  Calls Try.prog 81 #[.agg #[.slice v.pl.a v.pl.n v.pl.c, .slice v.st.a v.st.n v.st.c, .slice v.se.a v.se.n v.se.c, .slice v.on.a v.on.n v.on.c, .slice v.gr.a v.gr.n v.gr.c, .slice v.ba.a v.ba.n v.ba.c, .slice v.ch.a v.ch.n v.ch.c, .slice v.sa.a v.sa.n v.sa.c, .int .i64 v.fl]] w fun e w' => e = .returned (.tuple #[.map (some (w.heap.size + 1)), .map (some (w.heap.size + 3))]) ∧ WMap entC w' (w.heap.size + 1) (ents s) ∧ WMap oneC w' (w.heap.size + 3) (owns s) ∧ Below w.heap.size w w' := by
 have HS := xH1 hr
 have HZ := xH1 hz
 have HNE := xH1 hne
 have HNO := xH1 hno
 have nse : v.se.n ≤ 1048576 := by rw [hr.se.len]; exact hz.se
 have non : v.on.n ≤ 1048576 := by rw [hr.on.len]; exact hz.on
 have ngr : v.gr.n ≤ 1048576 := by rw [hr.gr.len]; exact hz.gr
 have nba : v.ba.n ≤ 1048576 := by rw [hr.ba.len]; exact hz.ba
 have nch : v.ch.n ≤ 1048576 := by rw [hr.ch.len]; exact hz.ch
 have hmm := @run_makeMap Try.prog
 have hmf : ∀ (fn : Fn) (first cap : Array Value) (w : World), (Instr.makeFunc fn first cap).run Try.prog w = .ok (.func fn first cap) w := fun _ _ _ _ => rfl
 have EG : Hid (∀ args w, (callFunc 92 args).run Try.prog w = .ok (.enter 92 args) w) := xH1 (enters_of Try.func92 (by kernel_rfl) rfl)
 have eg := EG.out
 have F := (Fr.start w).alloc (svC v) 37
 have b1 : Below (w.alloc (.cells (svC v) 37)).heap.size (w.alloc (.cells (svC v) 37)) ((w.alloc (.cells (svC v) 37)).alloc (.map #[] 0)) := xA1
 have hm1 := WMap.made (f := entC) (w.alloc (.cells (svC v) 37))
 have F1 := (F.call b1).alloc #[.map (some (w.heap.size + 1))] 143
 have hm2 := hm1.below (xB1.alloc xL1 (.cells #[.map (some (w.heap.size + 1))] 143))
 have b2 := ((Below.refl _ (((w.alloc (.cells (svC v) 37)).alloc (.map #[] 0)).alloc (.cells #[.map (some (w.heap.size + 1))] 143))).alloc xL1 (.map #[] 0))
 have F2 := F1.call b2
 have hm3 := hm2.below b2
 have hm4 := WMap.made (f := oneC) (((w.alloc (.cells (svC v) 37)).alloc (.map #[] 0)).alloc (.cells #[.map (some (w.heap.size + 1))] 143))
 simp only [World.size_alloc] at F2 hm3 hm4
 have h0 : WF w _ v [] [] [] := ⟨F2, hm3, hm4⟩
 clear hr hz hne hno F b1 hm1 F1 hm2 b2 F2 hm3 hm4
 go_enter Try.func81, Try.ntmps81
 go_upto_region 4 with fail
 obtain ⟨w1, hw, h⟩ : ∃ x, x = _ ∧ WF w x v [] [] [] := ⟨_, rfl, h0⟩
 rw [← hw]
 clear hw h0
 have cs := h.fr.c9 1 rfl
 go_wp2
 clear cs
 go_loopw [35] (fun i wr => ∃ k : Nat, k ≤ v.se.n ∧ i = .int .i64 k ∧ WF w wr v [] (([] : List Ent) ++ allE (fun i => zS (s.sems.getD i zE) i) k) ([])) (fun i _ => v.se.n - (intOf i).toNat)
 case atStart => exact ⟨0, by omega, rfl, by simpa [allE] using h⟩
 case round =>
  clear h
  obtain ⟨k, hk, rfl, h⟩ := hrel
  obtain ⟨wo, rfl⟩ : ∃ x, x = wr := ⟨_, rfl⟩
  by_cases hlt : k < v.se.n
  ·have hks : k < s.sems.length := by have := HS.out.se.len; omega
   obtain ⟨b1, o1, ea, g'⟩ := HS.out.se.rd.flat zdA zcY (by rw [HS.out.inn.se.len]; have := hks; omega) (by decide)
   obtain ⟨⟨x, q⟩, hxq⟩ : ∃ y, y = L.se.getD k zcY := ⟨_, rfl⟩
   have hx : x = s.sems.getD k zE := by have := HS.out.inn.se.fst zE nilV k; rw [← this]; exact congrArg Prod.fst hxq
   have hR := HS.out.inn.se.at zE nilV (i := k) hks
   replace g' := g' k (by rw [HS.out.inn.se.len]; exact hks)
   rw [← hxq] at g'
   rw [show L.se.getD k (zE, _) = (x, q) from hxq.symm, ← hx] at hR
   have HX := xH1 hx
   have g0 : w.cell? ⟨b1, o1 + k * 3, none⟩ = some (.int .i64 x.free) := by have := g' 0 (by decide); simpa [semC] using this
   have g1 : w.cell? ⟨b1, o1 + k * 3 + 1, none⟩ = some (.int .i64 x.limit) := by have := g' 1 (by decide); simpa [semC] using this
   have g2 : w.cell? ⟨b1, o1 + k * 3 + 2, none⟩ = some (.slice q.a q.n q.c) := by have := g' 2 (by decide); simpa [semC] using this
   have Q0 := xH1 ((show SlR [] w q (zH x.queue) x.queue.length from hR).rd)
   have QL0 := xH1 (show SlR [] w q (zH x.queue) x.queue.length from hR).len
   have QC0 := xH1 (show SlR [] w q (zH x.queue) x.queue.length from hR).cap
   clear g' hx hxq hR
   replace g0 := zd h.fr.bel g0
   replace g1 := zd h.fr.bel g1
   replace g2 := zd h.fr.bel g2
   have HPF : Hid (allE (fun i => zS (s.sems.getD i zE) i) k ++ zS x k <+: allE (fun i => zS (s.sems.getD i zE) i) s.sems.length) := xH1 (by have h9 := zcg (fun i => zS (s.sems.getD i zE) i) hks; rw [← HX.out] at h9; exact h9)
   have HK1 : Hid (allE (fun i => zS (s.sems.getD i zE) i) (k + 1) = allE (fun i => zS (s.sems.getD i zE) i) k ++ zS x k) := xH1 (by rw [HX.out]; rfl)
   have h2 := h.alloc #[.int .i64 x.free, .int .i64 x.limit, .slice q.a q.n q.c] 88
   have cx := h2.fr.c3 0 rfl
   have HKS := xH1 hks
   clear hks h
   have nq0 : q.n ≤ 1048576 := by rw [QL0.out, HX.out]; exact HZ.out.qse k
   go_upto_region 7 with fail
   clear ea
   go_wp2
   clear cx g0 g1 g2
   go_loopw [43] (fun i wr2 => ∃ j : Nat, j ≤ q.n ∧ i = .int .i64 j ∧ WF w wr2 v [.blk wo.heap.size #[.int .i64 x.free, .int .i64 x.limit, .slice q.a q.n q.c] 88] (([] : List Ent) ++ allE (fun i => zS (s.sems.getD i zE) i) k ++ ((x.queue).map (fun w => (w.1, (2 : Int), (k : Int), w.2))).take j) ([])) (fun i _ => q.n - (intOf i).toNat)
   case atStart => exact ⟨0, by omega, rfl, by simpa using h2⟩
   case round =>
    clear h2
    obtain ⟨j, hj, rfl, h2⟩ := hrel
    by_cases hjt : j < q.n
    ·have hjl : j < (x.queue).length := by rw [← QL0.out]; exact hjt
     obtain ⟨b, o, eb, g'⟩ := ((h2.fr.rd Q0.out)).pair (by omega)
     obtain ⟨g1, g2⟩ := g' j hjl
     obtain ⟨y, et⟩ : ∃ y, y = (x.queue).getD j (0, 0) := ⟨_, rfl⟩
     rw [← et] at g1 g2
     have hsn : ((x.queue).map (fun w => (w.1, (2 : Int), (k : Int), w.2))).take j ++ [(y.1, (2 : Int), (k : Int), y.2)] = ((x.queue).map (fun w => (w.1, (2 : Int), (k : Int), w.2))).take (j + 1) := by
      have h9 := zbg ((x.queue).map (fun w => (w.1, (2 : Int), (k : Int), w.2))) ((fun w => (w.1, (2 : Int), (k : Int), w.2)) (0, 0)) (j := j) (by rw [List.length_map]; exact hjl)
      rwa [List.getD_eq_getElem?_getD, List.getElem?_map, List.getElem?_eq_getElem hjl, Option.map_some, Option.getD_some, show (x.queue)[j] = y by rw [et, List.getD_eq_getElem?_getD, List.getElem?_eq_getElem hjl]; rfl] at h9
     have hpre : (([] : List Ent) ++ allE (fun i => zS (s.sems.getD i zE) i) k ++ ((x.queue).map (fun w => (w.1, (2 : Int), (k : Int), w.2))).take j) ++ [(y.1, (2 : Int), (k : Int), y.2)] <+: ents s := by
      rw [List.append_assoc, hsn]
      have e1 : (((x.queue).map (fun w => (w.1, (2 : Int), (k : Int), w.2))).take (j + 1)) <+: zS x k := by
       exact List.take_prefix _ _
      have e2 : allE (fun i => zS (s.sems.getD i zE) i) k ++ ((x.queue).map (fun w => (w.1, (2 : Int), (k : Int), w.2))).take (j + 1) <+: allE (fun i => zS (s.sems.getD i zE) i) s.sems.length := by
       exact ((List.prefix_append_right_inj _).2 e1).trans HPF.out
      simp only [List.nil_append]
      exact e2.trans (List.prefix_append _ _)
     have hnot := zcI HNE.out hpre
     have HSN := xH1 hsn
     have HNT := xH1 hnot
     clear g' et hjl hsn hpre hnot
     have h3 := h2.alloc #[.int .i64 y.1, .int .i64 y.2] 152
     have cy := h3.fr.c2 0 rfl
     go_upto_region 10 with fail
     clear eb g1 g2
     have hcell := h3.fr.cell 2 0 rfl rfl
     go_wp2_with fail
     refine (zcU y.1 2 k y.2 (w.heap.size + 2) (w.heap.size + 1) _ _ hcell h3.wm HNT.out).mono ?_
     rintro e w6 ⟨rfl, hw6, hg6⟩
     have h4 := h3.add hw6 hg6
     rw [List.append_assoc, HSN.out] at h4
     clear h3 h2 hcell hw6 hg6
     go_wp2
     go_roundw
     case rel => exact ⟨j + 1, by omega, by go_num, h4.tail⟩
     case measure => simp [intOf]; omega
    ·obtain rfl : j = q.n := by omega
     clear hjt hj
     rw [List.take_of_length_le (by rw [List.length_map]; have := QL0.out; omega)] at h2
     have e1 : ([] : List Ent) ++ allE (fun i => zS (s.sems.getD i zE) i) (k + 1) = ([] : List Ent) ++ allE (fun i => zS (s.sems.getD i zE) i) k ++ (x.queue).map (fun w => (w.1, (2 : Int), (k : Int), w.2)) := by
      rw [HK1.out]
      simp only [zS, List.append_assoc]
     rw [← e1] at h2
     clear e1
     have h4 := h2.tail
     clear h2
     go_wp2
     go_roundw
     case rel => exact ⟨k + 1, by omega, by go_num, h4⟩
     case measure => simp [intOf]; omega
  ·obtain rfl : k = v.se.n := by omega
   clear hlt hk
   rw [HS.out.se.len] at h
   have cs := h.fr.c9 1 rfl
   go_wp2
   clear cs
   go_loopw [59] (fun i wr => ∃ k : Nat, k ≤ v.on.n ∧ i = .int .i64 k ∧ WF w wr v [] (([] : List Ent) ++ allE (fun i => zS (s.sems.getD i zE) i) s.sems.length ++ allE (fun i => zN (s.onces.getD i zp) i) k) (allE (fun i => zas (s.onces.getD i zp) i) k)) (fun i _ => v.on.n - (intOf i).toNat)
   case atStart => exact ⟨0, by omega, rfl, by simpa [allE] using h⟩
   case round =>
    clear h
    obtain ⟨k, hk, rfl, h⟩ := hrel
    obtain ⟨wo, rfl⟩ : ∃ x, x = wr := ⟨_, rfl⟩
    by_cases hlt : k < v.on.n
    ·have hks : k < s.onces.length := by have := HS.out.on.len; omega
     obtain ⟨b1, o1, ea, g'⟩ := HS.out.on.rd.flat zd1 zdf (by rw [HS.out.inn.on.len]; have := hks; omega) (by decide)
     obtain ⟨⟨x, q⟩, hxq⟩ : ∃ y, y = L.on.getD k zdf := ⟨_, rfl⟩
     have hx : x = s.onces.getD k zp := by have := HS.out.inn.on.fst zp nilV k; rw [← this]; exact congrArg Prod.fst hxq
     have hR := HS.out.inn.on.at zp nilV (i := k) hks
     replace g' := g' k (by rw [HS.out.inn.on.len]; exact hks)
     rw [← hxq] at g'
     rw [show L.on.getD k (zp, _) = (x, q) from hxq.symm, ← hx] at hR
     have HX := xH1 hx
     have g0 : w.cell? ⟨b1, o1 + k * 4, none⟩ = some (.int .i64 x.state) := by have := g' 0 (by decide); simpa [zaZ] using this
     have g1 : w.cell? ⟨b1, o1 + k * 4 + 1, none⟩ = some (.int .i64 x.owner) := by have := g' 1 (by decide); simpa [zaZ] using this
     have g2 : w.cell? ⟨b1, o1 + k * 4 + 2, none⟩ = some (.int .i64 x.value) := by have := g' 2 (by decide); simpa [zaZ] using this
     have g3 : w.cell? ⟨b1, o1 + k * 4 + 3, none⟩ = some (.slice q.a q.n q.c) := by have := g' 3 (by decide); simpa [zaZ] using this
     have Q0 := xH1 ((show SlR [] w q (ints x.waits) x.waits.length from hR).rd)
     have QL0 := xH1 (show SlR [] w q (ints x.waits) x.waits.length from hR).len
     have QC0 := xH1 (show SlR [] w q (ints x.waits) x.waits.length from hR).cap
     clear g' hx hxq hR
     replace g0 := zd h.fr.bel g0
     replace g1 := zd h.fr.bel g1
     replace g2 := zd h.fr.bel g2
     replace g3 := zd h.fr.bel g3
     have HPF : Hid (allE (fun i => zN (s.onces.getD i zp) i) k ++ zN x k <+: allE (fun i => zN (s.onces.getD i zp) i) s.onces.length) := xH1 (by have h9 := zcg (fun i => zN (s.onces.getD i zp) i) hks; rw [← HX.out] at h9; exact h9)
     have HK1 : Hid (allE (fun i => zN (s.onces.getD i zp) i) (k + 1) = allE (fun i => zN (s.onces.getD i zp) i) k ++ zN x k) := xH1 (by rw [HX.out]; rfl)
     have h2 := h.alloc #[.int .i64 x.state, .int .i64 x.owner, .int .i64 x.value, .slice q.a q.n q.c] 98
     have cx := h2.fr.c4 0 rfl
     have HKS := xH1 hks
     clear hks h
     have nq0 : q.n ≤ 1048576 := by rw [QL0.out, HX.out]; exact HZ.out.qon k
     go_upto_region 16 with fail
     clear ea
     go_wp2
     clear cx g0 g1 g2 g3
     go_loopw [67] (fun i wr2 => ∃ j : Nat, j ≤ q.n ∧ i = .int .i64 j ∧ WF w wr2 v [.blk wo.heap.size #[.int .i64 x.state, .int .i64 x.owner, .int .i64 x.value, .slice q.a q.n q.c] 98] (([] : List Ent) ++ allE (fun i => zS (s.sems.getD i zE) i) s.sems.length ++ allE (fun i => zN (s.onces.getD i zp) i) k ++ ((x.waits).map (fun t => (t, (4 : Int), (k : Int), (0 : Int)))).take j) (allE (fun i => zas (s.onces.getD i zp) i) k)) (fun i _ => q.n - (intOf i).toNat)
     case atStart => exact ⟨0, by omega, rfl, by simpa using h2⟩
     case round =>
      clear h2
      obtain ⟨j, hj, rfl, h2⟩ := hrel
      by_cases hjt : j < q.n
      ·have hjl : j < (x.waits).length := by rw [← QL0.out]; exact hjt
       obtain ⟨b, o, eb, g'⟩ := ((h2.fr.rd Q0.out)).int (by omega)
       have g1 := g' j hjl
       obtain ⟨t, et⟩ : ∃ t, t = (x.waits).getD j 0 := ⟨_, rfl⟩
       rw [← et] at g1
       have hsn : ((x.waits).map (fun t => (t, (4 : Int), (k : Int), (0 : Int)))).take j ++ [(t, (4 : Int), (k : Int), (0 : Int))] = ((x.waits).map (fun t => (t, (4 : Int), (k : Int), (0 : Int)))).take (j + 1) := by
        have h9 := zbg ((x.waits).map (fun t => (t, (4 : Int), (k : Int), (0 : Int)))) ((fun t => (t, (4 : Int), (k : Int), (0 : Int))) 0) (j := j) (by rw [List.length_map]; exact hjl)
        rwa [List.getD_eq_getElem?_getD, List.getElem?_map, List.getElem?_eq_getElem hjl, Option.map_some, Option.getD_some, show (x.waits)[j] = t by rw [et, List.getD_eq_getElem?_getD, List.getElem?_eq_getElem hjl]; rfl] at h9
       have hpre : (([] : List Ent) ++ allE (fun i => zS (s.sems.getD i zE) i) s.sems.length ++ allE (fun i => zN (s.onces.getD i zp) i) k ++ ((x.waits).map (fun t => (t, (4 : Int), (k : Int), (0 : Int)))).take j) ++ [(t, (4 : Int), (k : Int), (0 : Int))] <+: ents s := by
        rw [List.append_assoc, hsn]
        have e1 : (((x.waits).map (fun t => (t, (4 : Int), (k : Int), (0 : Int)))).take (j + 1)) <+: zN x k := by
         exact List.take_prefix _ _
        have e2 : allE (fun i => zN (s.onces.getD i zp) i) k ++ ((x.waits).map (fun t => (t, (4 : Int), (k : Int), (0 : Int)))).take (j + 1) <+: allE (fun i => zN (s.onces.getD i zp) i) s.onces.length := by
         exact ((List.prefix_append_right_inj _).2 e1).trans HPF.out
        have e3 := (List.prefix_append_right_inj (([] : List Ent) ++ allE (fun i => zS (s.sems.getD i zE) i) s.sems.length)).2 e2
        have e4 : (([] : List Ent) ++ allE (fun i => zS (s.sems.getD i zE) i) s.sems.length) ++ allE (fun i => zN (s.onces.getD i zp) i) s.onces.length <+: ents s := by
         unfold ents
         simp only [List.nil_append]
         simp only [← List.append_assoc]
         exact ((List.prefix_append _ _).trans (List.prefix_append _ _)).trans (List.prefix_append _ _)
        have e5 := e3.trans e4
        simpa only [List.append_assoc] using e5
       have hnot := zcI HNE.out hpre
       have HSN := xH1 hsn
       have HNT := xH1 hnot
       clear g' et hjl hsn hpre hnot
       have h3 := h2
       go_upto_region 19 with fail
       clear eb g1
       have hcell := h3.fr.cell 1 0 rfl rfl
       go_wp2_with fail
       refine (zcU t 4 k 0 (w.heap.size + 2) (w.heap.size + 1) _ _ hcell h3.wm HNT.out).mono ?_
       rintro e w6 ⟨rfl, hw6, hg6⟩
       have h4 := h3.add hw6 hg6
       rw [List.append_assoc, HSN.out] at h4
       clear h3 h2 hcell hw6 hg6
       go_wp2
       go_roundw
       case rel => exact ⟨j + 1, by omega, by go_num, h4⟩
       case measure => simp [intOf]; omega
      ·obtain rfl : j = q.n := by omega
       clear hjt hj
       rw [List.take_of_length_le (by rw [List.length_map]; have := QL0.out; omega)] at h2
       have e1 : ([] : List Ent) ++ allE (fun i => zS (s.sems.getD i zE) i) s.sems.length ++ allE (fun i => zN (s.onces.getD i zp) i) (k + 1) = ([] : List Ent) ++ allE (fun i => zS (s.sems.getD i zE) i) s.sems.length ++ allE (fun i => zN (s.onces.getD i zp) i) k ++ (x.waits).map (fun t => (t, (4 : Int), (k : Int), (0 : Int))) := by
        rw [HK1.out]
        simp only [zN, List.append_assoc]
       rw [← e1] at h2
       clear e1
       have cx := h2.fr.c4 0 rfl
       have e2 : allE (fun i => zas (s.onces.getD i zp) i) (k + 1) = allE (fun i => zas (s.onces.getD i zp) i) k ++ zas x k := by rw [HX.out]; rfl
       by_cases hst : x.state = 1
       ·have t0 : (x.state == 1) = true := by simpa using hst
        have e3 : zas x k = [(x.owner, (k : Int))] := by unfold zas; rw [if_pos hst]
        have hnot : x.owner ∉ (allE (fun i => zas (s.onces.getD i zp) i) k).map (·.1) := by
         have h9 := zcg (fun i => zas (s.onces.getD i zp) i) HKS.out
         rw [← HX.out, e3] at h9
         exact zcI (e := (x.owner, (k : Int))) HNO.out h9
        rw [e3] at e2
        have HT := xH1 hnot
        have HE2 := xH1 e2
        obtain ⟨Z, z1, z2, z3⟩ := h2.om
        have HL : Hid (∀ w1, Below wr.heap.size wr w1 → (Instr.lookup 144 (.map (some (w.heap.size + 3))) (.int .i64 x.owner) false).run Try.prog w1 = .ok (.slice none 0 0) w1) := xH1 (fun w1 hb => by
         have h := zb7 (P := Try.prog) Try.underlying144 Try.underlying3 zgY (z2.below hb) x.owner
         rw [WMap.absent z1 HT.out] at h
         exact h)
        clear hst hnot e2 e3
        go_wp2_with fail
        refine zar 10 (by kernel_rfl) (by kernel_rfl) [isV (.map (some (w.heap.size + 3))), isV (.pointer (some ⟨wo.heap.size, 1, none⟩)), isV (.int .i64 x.owner), isV (.map (some (w.heap.size + 3))), isV (.pointer (some ⟨wo.heap.size, 1, none⟩)), isV (.int .i64 x.owner), isV (.slice none 0 0), isV (.int .i64 k), fun dz uz wz => ∃ gz : Nat, uz = .slice (some ⟨gz, 0, none⟩) 1 1 ∧ Blk wz gz #[.int .i64 k] 3, fun dz uz wz => ∃ (az : Option Addr) (cz : Nat), uz = .slice az 1 cz ∧ wz.ownsRow wr.heap.size 3 1 (.slice az 1 cz) 1 (oneC (k : Int))] ⟨pS, pS, pS, pS, pS, pS, pS, pS, fun _ _ _ _ hb ⟨g, e, h⟩ => ⟨g, e, h.below hb⟩, fun _ _ _ _ hb ⟨a, c, e, h⟩ => ⟨a, c, e, zj h hb⟩, trivial⟩ ?_ ?_
        ·simp only [List.take_succ_cons, List.take_zero]
         refine ⟨?_, ?_, ?_, ?_, ?_, ?_, ?_, ?_, ?_, ?_, trivial⟩
         all_goals (intro ρ w1 hG hfr hd; obtain ⟨fc, ff⟩ := fcff hfr; have f5 : ρ (.tmp 5) = .map (some (w.heap.size + 3)) := hfr _ rfl; have f12 : ρ (.tmp 12) = .pointer (some ⟨wo.heap.size, 0, none⟩) := hfr _ rfl; have f11 : ρ (.tmp 11) = .int .i64 k := hfr _ rfl; have F1 := h2.fr.call hG; have cx := F1.c4 0 rfl; clear F1)
         ·exact gvF hG (by go_simp) rfl xN1
         ·exact gvF hG (by go_simp) rfl xN1
         ·obtain ⟨d0, -⟩ := hd
          have d0 : ρ (.tmp 80) = _ := d0
          exact gvF hG (by go_simp) rfl xN1
         ·exact gvF hG (by go_simp) rfl xN1
         ·exact gvF hG (by go_simp) rfl xN1
         ·obtain ⟨d0, -⟩ := hd
          have d0 : ρ (.tmp 83) = _ := d0
          exact gvF hG (by go_simp) rfl xN1
         ·obtain ⟨d0, d1, -⟩ := hd
          have d0 : ρ (.tmp 82) = _ := d0
          have d1 : ρ (.tmp 84) = _ := d1
          have hlk := HL.out w1 hG
          exact gvF hG (by go_simp) rfl xN1
         ·exact gvF hG (by go_simp) rfl xN1
         ·obtain ⟨d0, -⟩ := hd
          have d0 : ρ (.tmp 86) = _ := d0
          refine zf (u := .slice (some ⟨w1.heap.size, 0, none⟩) 1 1) (w' := w1.alloc (.cells #[.int .i64 k] 3)) (by go_simp) ⟨xA1, ⟨_, rfl, Blk.new _ _ _⟩, xN1, hG.alloc hG.size _⟩
         ·obtain ⟨d0, d1, -⟩ := hd
          have d0 : ρ (.tmp 85) = _ := d0
          have d1 : ∃ gz : Nat, (ρ (.tmp 87)) = .slice (some ⟨gz, 0, none⟩) 1 1 ∧ Blk w1 gz #[.int .i64 k] 3 := d1
          obtain ⟨gz, d1, hgz⟩ := d1
          refine zaG (m := 1) (news := oneC (k : Int)) _ _ 23 rfl Try.underlying23 zaO rfl (by decide) d0 (World.ownsRow_nil _ _ _ _) d1 rfl (Rd.of_blk hgz) (by intro u hu; simp only [oneC, List.mem_cons, List.not_mem_nil, or_false] at hu; subst hu; rfl) (by omega) (by decide) hG.size ?_
          intro a' c' w2 hown2 hb hf h0
          exact ⟨hb, ⟨a', c', rfl, hown2⟩, xN1, hG.trans (hb.mono hG.size)⟩
        intro vs w2 hG hlen hall
        obtain ⟨xv0, xv1, xv2, xv3, xv4, xv5, xv6, xv7, xv8, xv9, rfl⟩ := zj2 hlen
        clear hlen
        simp only [List.take_succ_cons, List.take_zero, List.drop_succ_cons, List.drop_zero] at hall ⊢
        obtain ⟨hv0, hv1, hv2, hv3, hv4, hv5, hv6, hv7, hv8, hv9, -⟩ := hall
        replace hv8 : ∃ gz : Nat, xv8 = .slice (some ⟨gz, 0, none⟩) 1 1 ∧ Blk w2 gz #[.int .i64 k] 3 := hv8
        replace hv9 : ∃ (az : Option Addr) (cz : Nat), xv9 = .slice az 1 cz ∧ w2.ownsRow wr.heap.size 3 1 (.slice az 1 cz) 1 (oneC (k : Int)) := hv9
        obtain rfl : xv0 = _ := hv0
        obtain rfl : xv1 = _ := hv1
        obtain rfl : xv2 = _ := hv2
        obtain rfl : xv3 = _ := hv3
        obtain rfl : xv4 = _ := hv4
        obtain rfl : xv5 = _ := hv5
        obtain rfl : xv6 = _ := hv6
        obtain rfl : xv7 = _ := hv7
        simp only [z9, Act.put, List.setIfInBounds_toArray, List.set_cons_succ, List.set_cons_zero]
        obtain ⟨az, cz, rfl, ho⟩ := hv9
        clear hv8
        have y2 := z2.below hG
        have y3 : ∀ z ∈ Z, Rd w2 z.2.1 (oneC z.1.2) ∧ 1 ≤ z.2.2 := fun z hz => ⟨(z3 z hz).1.below hG, (z3 z hz).2⟩
        have h3 := h2.call hG
        clear z2 z3 h2 cx hG
        go_wp2_with (at_mapUpdate; refine zcK rfl _ _ _ rfl Try.underlying144 Try.underlying3 rfl y2 rfl rfl ?_; intro w5 hm5 hg5 hs5; have hw5 : WMap oneC w5 (w.heap.size + 3) (allE (fun i => zas (s.onces.getD i zp) i) k ++ [(x.owner, (k : Int))]) := WMap.put z1 y2 y3 HT.out (Rd.of_owns ho) (zce ho).1 (fun _ => by simp) hg5 hm5; have h4 := (h3.own hw5 hg5).tail; rw [← HE2.out] at h4)
        go_roundw
        case rel => exact ⟨k + 1, by omega, by go_num, h4⟩
        case measure => simp [intOf]; omega
       ·have t0 : (x.state == 1) = false := by simpa using hst
        have e3 : zas x k = [] := by unfold zas; rw [if_neg hst]
        rw [e3, List.append_nil] at e2
        have h4 := h2.tail
        rw [← e2] at h4
        clear h2 e2 e3 hst
        go_wp2
        go_roundw
        case rel => exact ⟨k + 1, by omega, by go_num, h4⟩
        case measure => simp [intOf]; omega
    ·obtain rfl : k = v.on.n := by omega
     clear hlt hk
     rw [HS.out.on.len] at h
     have cs := h.fr.c9 1 rfl
     go_wp2
     clear cs
     go_loopw [93] (fun i wr => ∃ k : Nat, k ≤ v.gr.n ∧ i = .int .i64 k ∧ WF w wr v [] (([] : List Ent) ++ allE (fun i => zS (s.sems.getD i zE) i) s.sems.length ++ allE (fun i => zN (s.onces.getD i zp) i) s.onces.length ++ allE (fun i => zaf (s.groups.getD i zK) i) k) (allE (fun i => zas (s.onces.getD i zp) i) s.onces.length)) (fun i _ => v.gr.n - (intOf i).toNat)
     case atStart => exact ⟨0, by omega, rfl, by simpa [allE] using h⟩
     case round =>
      clear h
      obtain ⟨k, hk, rfl, h⟩ := hrel
      obtain ⟨wo, rfl⟩ : ∃ x, x = wr := ⟨_, rfl⟩
      by_cases hlt : k < v.gr.n
      ·have hks : k < s.groups.length := by have := HS.out.gr.len; omega
       obtain ⟨b1, o1, ea, g'⟩ := HS.out.gr.rd.flat zdF zc0 (by rw [HS.out.inn.gr.len]; have := hks; omega) (by decide)
       obtain ⟨⟨x, q⟩, hxq⟩ : ∃ y, y = L.gr.getD k zc0 := ⟨_, rfl⟩
       have hx : x = s.groups.getD k zK := by have := HS.out.inn.gr.fst zK nilV k; rw [← this]; exact congrArg Prod.fst hxq
       have hR := HS.out.inn.gr.at zK nilV (i := k) hks
       replace g' := g' k (by rw [HS.out.inn.gr.len]; exact hks)
       rw [← hxq] at g'
       rw [show L.gr.getD k (zK, _) = (x, q) from hxq.symm, ← hx] at hR
       have HX := xH1 hx
       have g0 : w.cell? ⟨b1, o1 + k * 2, none⟩ = some (.int .i64 x.count) := by have := g' 0 (by decide); simpa [grpC] using this
       have g1 : w.cell? ⟨b1, o1 + k * 2 + 1, none⟩ = some (.slice q.a q.n q.c) := by have := g' 1 (by decide); simpa [grpC] using this
       have Q0 := xH1 ((show SlR [] w q (ints x.waits) x.waits.length from hR).rd)
       have QL0 := xH1 (show SlR [] w q (ints x.waits) x.waits.length from hR).len
       have QC0 := xH1 (show SlR [] w q (ints x.waits) x.waits.length from hR).cap
       clear g' hx hxq hR
       replace g0 := zd h.fr.bel g0
       replace g1 := zd h.fr.bel g1
       have HPF : Hid (allE (fun i => zaf (s.groups.getD i zK) i) k ++ zaf x k <+: allE (fun i => zaf (s.groups.getD i zK) i) s.groups.length) := xH1 (by have h9 := zcg (fun i => zaf (s.groups.getD i zK) i) hks; rw [← HX.out] at h9; exact h9)
       have HK1 : Hid (allE (fun i => zaf (s.groups.getD i zK) i) (k + 1) = allE (fun i => zaf (s.groups.getD i zK) i) k ++ zaf x k) := xH1 (by rw [HX.out]; rfl)
       have h2 := h.alloc #[.int .i64 x.count, .slice q.a q.n q.c] 90
       have cx := h2.fr.c2 0 rfl
       have HKS := xH1 hks
       clear hks h
       have nq0 : q.n ≤ 1048576 := by rw [QL0.out, HX.out]; exact HZ.out.qgr k
       go_upto_region 27 with fail
       clear ea
       go_wp2
       clear cx g0 g1
       go_loopw [101] (fun i wr2 => ∃ j : Nat, j ≤ q.n ∧ i = .int .i64 j ∧ WF w wr2 v [.blk wo.heap.size #[.int .i64 x.count, .slice q.a q.n q.c] 90] (([] : List Ent) ++ allE (fun i => zS (s.sems.getD i zE) i) s.sems.length ++ allE (fun i => zN (s.onces.getD i zp) i) s.onces.length ++ allE (fun i => zaf (s.groups.getD i zK) i) k ++ ((x.waits).map (fun t => (t, (6 : Int), (k : Int), (0 : Int)))).take j) (allE (fun i => zas (s.onces.getD i zp) i) s.onces.length)) (fun i _ => q.n - (intOf i).toNat)
       case atStart => exact ⟨0, by omega, rfl, by simpa using h2⟩
       case round =>
        clear h2
        obtain ⟨j, hj, rfl, h2⟩ := hrel
        by_cases hjt : j < q.n
        ·have hjl : j < (x.waits).length := by rw [← QL0.out]; exact hjt
         obtain ⟨b, o, eb, g'⟩ := ((h2.fr.rd Q0.out)).int (by omega)
         have g1 := g' j hjl
         obtain ⟨t, et⟩ : ∃ t, t = (x.waits).getD j 0 := ⟨_, rfl⟩
         rw [← et] at g1
         have hsn : ((x.waits).map (fun t => (t, (6 : Int), (k : Int), (0 : Int)))).take j ++ [(t, (6 : Int), (k : Int), (0 : Int))] = ((x.waits).map (fun t => (t, (6 : Int), (k : Int), (0 : Int)))).take (j + 1) := by
          have h9 := zbg ((x.waits).map (fun t => (t, (6 : Int), (k : Int), (0 : Int)))) ((fun t => (t, (6 : Int), (k : Int), (0 : Int))) 0) (j := j) (by rw [List.length_map]; exact hjl)
          rwa [List.getD_eq_getElem?_getD, List.getElem?_map, List.getElem?_eq_getElem hjl, Option.map_some, Option.getD_some, show (x.waits)[j] = t by rw [et, List.getD_eq_getElem?_getD, List.getElem?_eq_getElem hjl]; rfl] at h9
         have hpre : (([] : List Ent) ++ allE (fun i => zS (s.sems.getD i zE) i) s.sems.length ++ allE (fun i => zN (s.onces.getD i zp) i) s.onces.length ++ allE (fun i => zaf (s.groups.getD i zK) i) k ++ ((x.waits).map (fun t => (t, (6 : Int), (k : Int), (0 : Int)))).take j) ++ [(t, (6 : Int), (k : Int), (0 : Int))] <+: ents s := by
          rw [List.append_assoc, hsn]
          have e1 : (((x.waits).map (fun t => (t, (6 : Int), (k : Int), (0 : Int)))).take (j + 1)) <+: zaf x k := by
           exact List.take_prefix _ _
          have e2 : allE (fun i => zaf (s.groups.getD i zK) i) k ++ ((x.waits).map (fun t => (t, (6 : Int), (k : Int), (0 : Int)))).take (j + 1) <+: allE (fun i => zaf (s.groups.getD i zK) i) s.groups.length := by
           exact ((List.prefix_append_right_inj _).2 e1).trans HPF.out
          have e3 := (List.prefix_append_right_inj (([] : List Ent) ++ allE (fun i => zS (s.sems.getD i zE) i) s.sems.length ++ allE (fun i => zN (s.onces.getD i zp) i) s.onces.length)).2 e2
          have e4 : (([] : List Ent) ++ allE (fun i => zS (s.sems.getD i zE) i) s.sems.length ++ allE (fun i => zN (s.onces.getD i zp) i) s.onces.length) ++ allE (fun i => zaf (s.groups.getD i zK) i) s.groups.length <+: ents s := by
           unfold ents
           simp only [List.nil_append, List.append_assoc]
           simp only [← List.append_assoc]
           exact (List.prefix_append _ _).trans (List.prefix_append _ _)
          have e5 := e3.trans e4
          simpa only [List.append_assoc] using e5
         have hnot := zcI HNE.out hpre
         have HSN := xH1 hsn
         have HNT := xH1 hnot
         clear g' et hjl hsn hpre hnot
         have h3 := h2
         go_upto_region 30 with fail
         clear eb g1
         have hcell := h3.fr.cell 1 0 rfl rfl
         go_wp2_with fail
         refine (zcU t 6 k 0 (w.heap.size + 2) (w.heap.size + 1) _ _ hcell h3.wm HNT.out).mono ?_
         rintro e w6 ⟨rfl, hw6, hg6⟩
         have h4 := h3.add hw6 hg6
         rw [List.append_assoc, HSN.out] at h4
         clear h3 h2 hcell hw6 hg6
         go_wp2
         go_roundw
         case rel => exact ⟨j + 1, by omega, by go_num, h4⟩
         case measure => simp [intOf]; omega
        ·obtain rfl : j = q.n := by omega
         clear hjt hj
         rw [List.take_of_length_le (by rw [List.length_map]; have := QL0.out; omega)] at h2
         have e1 : ([] : List Ent) ++ allE (fun i => zS (s.sems.getD i zE) i) s.sems.length ++ allE (fun i => zN (s.onces.getD i zp) i) s.onces.length ++ allE (fun i => zaf (s.groups.getD i zK) i) (k + 1) = ([] : List Ent) ++ allE (fun i => zS (s.sems.getD i zE) i) s.sems.length ++ allE (fun i => zN (s.onces.getD i zp) i) s.onces.length ++ allE (fun i => zaf (s.groups.getD i zK) i) k ++ (x.waits).map (fun t => (t, (6 : Int), (k : Int), (0 : Int))) := by
          rw [HK1.out]
          simp only [zaf, List.append_assoc]
         rw [← e1] at h2
         clear e1
         have h4 := h2.tail
         clear h2
         go_wp2
         go_roundw
         case rel => exact ⟨k + 1, by omega, by go_num, h4⟩
         case measure => simp [intOf]; omega
      ·obtain rfl : k = v.gr.n := by omega
       clear hlt hk
       rw [HS.out.gr.len] at h
       have cs := h.fr.c9 1 rfl
       go_wp2
       clear cs
       go_loopw [114] (fun i wr => ∃ k : Nat, k ≤ v.ba.n ∧ i = .int .i64 k ∧ WF w wr v [] (([] : List Ent) ++ allE (fun i => zS (s.sems.getD i zE) i) s.sems.length ++ allE (fun i => zN (s.onces.getD i zp) i) s.onces.length ++ allE (fun i => zaf (s.groups.getD i zK) i) s.groups.length ++ allE (fun i => zam (s.bars.getD i zx) i) k) (allE (fun i => zas (s.onces.getD i zp) i) s.onces.length)) (fun i _ => v.ba.n - (intOf i).toNat)
       case atStart => exact ⟨0, by omega, rfl, by simpa [allE] using h⟩
       case round =>
        clear h
        obtain ⟨k, hk, rfl, h⟩ := hrel
        obtain ⟨wo, rfl⟩ : ∃ x, x = wr := ⟨_, rfl⟩
        by_cases hlt : k < v.ba.n
        ·have hks : k < s.bars.length := by have := HS.out.ba.len; omega
         obtain ⟨b1, o1, ea, g'⟩ := HS.out.ba.rd.flat zeq zd2 (by rw [HS.out.inn.ba.len]; have := hks; omega) (by decide)
         obtain ⟨⟨x, q⟩, hxq⟩ : ∃ y, y = L.ba.getD k zd2 := ⟨_, rfl⟩
         have hx : x = s.bars.getD k zx := by have := HS.out.inn.ba.fst zx nilV k; rw [← this]; exact congrArg Prod.fst hxq
         have hR := HS.out.inn.ba.at zx nilV (i := k) hks
         replace g' := g' k (by rw [HS.out.inn.ba.len]; exact hks)
         rw [← hxq] at g'
         rw [show L.ba.getD k (zx, _) = (x, q) from hxq.symm, ← hx] at hR
         have HX := xH1 hx
         have g0 : w.cell? ⟨b1, o1 + k * 3, none⟩ = some (.int .i64 x.parties) := by have := g' 0 (by decide); simpa [barC] using this
         have g1 : w.cell? ⟨b1, o1 + k * 3 + 1, none⟩ = some (.int .i64 x.round) := by have := g' 1 (by decide); simpa [barC] using this
         have g2 : w.cell? ⟨b1, o1 + k * 3 + 2, none⟩ = some (.slice q.a q.n q.c) := by have := g' 2 (by decide); simpa [barC] using this
         have Q0 := xH1 ((show SlR [] w q (ints x.waits) x.waits.length from hR).rd)
         have QL0 := xH1 (show SlR [] w q (ints x.waits) x.waits.length from hR).len
         have QC0 := xH1 (show SlR [] w q (ints x.waits) x.waits.length from hR).cap
         clear g' hx hxq hR
         replace g0 := zd h.fr.bel g0
         replace g1 := zd h.fr.bel g1
         replace g2 := zd h.fr.bel g2
         have HPF : Hid (allE (fun i => zam (s.bars.getD i zx) i) k ++ zam x k <+: allE (fun i => zam (s.bars.getD i zx) i) s.bars.length) := xH1 (by have h9 := zcg (fun i => zam (s.bars.getD i zx) i) hks; rw [← HX.out] at h9; exact h9)
         have HK1 : Hid (allE (fun i => zam (s.bars.getD i zx) i) (k + 1) = allE (fun i => zam (s.bars.getD i zx) i) k ++ zam x k) := xH1 (by rw [HX.out]; rfl)
         have h2 := h.alloc #[.int .i64 x.parties, .int .i64 x.round, .slice q.a q.n q.c] 92
         have cx := h2.fr.c3 0 rfl
         have HKS := xH1 hks
         clear hks h
         have nq0 : q.n ≤ 1048576 := by rw [QL0.out, HX.out]; exact HZ.out.qba k
         go_upto_region 36 with fail
         clear ea
         go_wp2
         clear cx g0 g1 g2
         go_loopw [122] (fun i wr2 => ∃ j : Nat, j ≤ q.n ∧ i = .int .i64 j ∧ WF w wr2 v [.blk wo.heap.size #[.int .i64 x.parties, .int .i64 x.round, .slice q.a q.n q.c] 92] (([] : List Ent) ++ allE (fun i => zS (s.sems.getD i zE) i) s.sems.length ++ allE (fun i => zN (s.onces.getD i zp) i) s.onces.length ++ allE (fun i => zaf (s.groups.getD i zK) i) s.groups.length ++ allE (fun i => zam (s.bars.getD i zx) i) k ++ ((x.waits).map (fun t => (t, (7 : Int), (k : Int), (0 : Int)))).take j) (allE (fun i => zas (s.onces.getD i zp) i) s.onces.length)) (fun i _ => q.n - (intOf i).toNat)
         case atStart => exact ⟨0, by omega, rfl, by simpa using h2⟩
         case round =>
          clear h2
          obtain ⟨j, hj, rfl, h2⟩ := hrel
          by_cases hjt : j < q.n
          ·have hjl : j < (x.waits).length := by rw [← QL0.out]; exact hjt
           obtain ⟨b, o, eb, g'⟩ := ((h2.fr.rd Q0.out)).int (by omega)
           have g1 := g' j hjl
           obtain ⟨t, et⟩ : ∃ t, t = (x.waits).getD j 0 := ⟨_, rfl⟩
           rw [← et] at g1
           have hsn : ((x.waits).map (fun t => (t, (7 : Int), (k : Int), (0 : Int)))).take j ++ [(t, (7 : Int), (k : Int), (0 : Int))] = ((x.waits).map (fun t => (t, (7 : Int), (k : Int), (0 : Int)))).take (j + 1) := by
            have h9 := zbg ((x.waits).map (fun t => (t, (7 : Int), (k : Int), (0 : Int)))) ((fun t => (t, (7 : Int), (k : Int), (0 : Int))) 0) (j := j) (by rw [List.length_map]; exact hjl)
            rwa [List.getD_eq_getElem?_getD, List.getElem?_map, List.getElem?_eq_getElem hjl, Option.map_some, Option.getD_some, show (x.waits)[j] = t by rw [et, List.getD_eq_getElem?_getD, List.getElem?_eq_getElem hjl]; rfl] at h9
           have hpre : (([] : List Ent) ++ allE (fun i => zS (s.sems.getD i zE) i) s.sems.length ++ allE (fun i => zN (s.onces.getD i zp) i) s.onces.length ++ allE (fun i => zaf (s.groups.getD i zK) i) s.groups.length ++ allE (fun i => zam (s.bars.getD i zx) i) k ++ ((x.waits).map (fun t => (t, (7 : Int), (k : Int), (0 : Int)))).take j) ++ [(t, (7 : Int), (k : Int), (0 : Int))] <+: ents s := by
            rw [List.append_assoc, hsn]
            have e1 : (((x.waits).map (fun t => (t, (7 : Int), (k : Int), (0 : Int)))).take (j + 1)) <+: zam x k := by
             exact List.take_prefix _ _
            have e2 : allE (fun i => zam (s.bars.getD i zx) i) k ++ ((x.waits).map (fun t => (t, (7 : Int), (k : Int), (0 : Int)))).take (j + 1) <+: allE (fun i => zam (s.bars.getD i zx) i) s.bars.length := by
             exact ((List.prefix_append_right_inj _).2 e1).trans HPF.out
            have e3 := (List.prefix_append_right_inj (([] : List Ent) ++ allE (fun i => zS (s.sems.getD i zE) i) s.sems.length ++ allE (fun i => zN (s.onces.getD i zp) i) s.onces.length ++ allE (fun i => zaf (s.groups.getD i zK) i) s.groups.length)).2 e2
            have e4 : (([] : List Ent) ++ allE (fun i => zS (s.sems.getD i zE) i) s.sems.length ++ allE (fun i => zN (s.onces.getD i zp) i) s.onces.length ++ allE (fun i => zaf (s.groups.getD i zK) i) s.groups.length) ++ allE (fun i => zam (s.bars.getD i zx) i) s.bars.length <+: ents s := by
             unfold ents
             simp only [List.nil_append, List.append_assoc]
             simp only [← List.append_assoc]
             exact List.prefix_append _ _
            have e5 := e3.trans e4
            simpa only [List.append_assoc] using e5
           have hnot := zcI HNE.out hpre
           have HSN := xH1 hsn
           have HNT := xH1 hnot
           clear g' et hjl hsn hpre hnot
           have h3 := h2
           go_upto_region 39 with fail
           clear eb g1
           have hcell := h3.fr.cell 1 0 rfl rfl
           go_wp2_with fail
           refine (zcU t 7 k 0 (w.heap.size + 2) (w.heap.size + 1) _ _ hcell h3.wm HNT.out).mono ?_
           rintro e w6 ⟨rfl, hw6, hg6⟩
           have h4 := h3.add hw6 hg6
           rw [List.append_assoc, HSN.out] at h4
           clear h3 h2 hcell hw6 hg6
           go_wp2
           go_roundw
           case rel => exact ⟨j + 1, by omega, by go_num, h4⟩
           case measure => simp [intOf]; omega
          ·obtain rfl : j = q.n := by omega
           clear hjt hj
           rw [List.take_of_length_le (by rw [List.length_map]; have := QL0.out; omega)] at h2
           have e1 : ([] : List Ent) ++ allE (fun i => zS (s.sems.getD i zE) i) s.sems.length ++ allE (fun i => zN (s.onces.getD i zp) i) s.onces.length ++ allE (fun i => zaf (s.groups.getD i zK) i) s.groups.length ++ allE (fun i => zam (s.bars.getD i zx) i) (k + 1) = ([] : List Ent) ++ allE (fun i => zS (s.sems.getD i zE) i) s.sems.length ++ allE (fun i => zN (s.onces.getD i zp) i) s.onces.length ++ allE (fun i => zaf (s.groups.getD i zK) i) s.groups.length ++ allE (fun i => zam (s.bars.getD i zx) i) k ++ (x.waits).map (fun t => (t, (7 : Int), (k : Int), (0 : Int))) := by
            rw [HK1.out]
            simp only [zam, List.append_assoc]
           rw [← e1] at h2
           clear e1
           have h4 := h2.tail
           clear h2
           go_wp2
           go_roundw
           case rel => exact ⟨k + 1, by omega, by go_num, h4⟩
           case measure => simp [intOf]; omega
        ·obtain rfl : k = v.ba.n := by omega
         clear hlt hk
         rw [HS.out.ba.len] at h
         have cs := h.fr.c9 1 rfl
         go_wp2
         clear cs
         go_loopw [135] (fun i wr => ∃ k : Nat, k ≤ v.ch.n ∧ i = .int .i64 k ∧ WF w wr v [] (([] : List Ent) ++ allE (fun i => zS (s.sems.getD i zE) i) s.sems.length ++ allE (fun i => zN (s.onces.getD i zp) i) s.onces.length ++ allE (fun i => zaf (s.groups.getD i zK) i) s.groups.length ++ allE (fun i => zam (s.bars.getD i zx) i) s.bars.length ++ allE (fun i => zY (s.chans.getD i zy) i) k) (allE (fun i => zas (s.onces.getD i zp) i) s.onces.length)) (fun i _ => v.ch.n - (intOf i).toNat)
         case atStart => exact ⟨0, by omega, rfl, by simpa [allE] using h⟩
         case round =>
          clear h
          obtain ⟨k, hk, rfl, h⟩ := hrel
          obtain ⟨wo, rfl⟩ : ∃ x, x = wr := ⟨_, rfl⟩
          by_cases hlt : k < v.ch.n
          ·have hks : k < s.chans.length := by have := HS.out.ch.len; omega
           obtain ⟨b1, o1, ea, g'⟩ := HS.out.ch.rd.flat zc8 zcw (by rw [HS.out.inn.ch.len]; have := hks; omega) (by decide)
           obtain ⟨⟨x, q⟩, hxq⟩ : ∃ y, y = L.ch.getD k zcw := ⟨_, rfl⟩
           have hx : x = s.chans.getD k zy := by have := HS.out.inn.ch.fst zy (nilV, nilV, nilV) k; rw [← this]; exact congrArg Prod.fst hxq
           have hR := HS.out.inn.ch.at zy (nilV, nilV, nilV) (i := k) hks
           replace g' := g' k (by rw [HS.out.inn.ch.len]; exact hks)
           rw [← hxq] at g'
           rw [show L.ch.getD k (zy, _) = (x, q) from hxq.symm, ← hx] at hR
           have HX := xH1 hx
           have g0 : w.cell? ⟨b1, o1 + k * 5, none⟩ = some (.int .i64 x.room) := by have := g' 0 (by decide); simpa [chnC] using this
           have g1 : w.cell? ⟨b1, o1 + k * 5 + 1, none⟩ = some (.slice q.1.a q.1.n q.1.c) := by have := g' 1 (by decide); simpa [chnC] using this
           have g2 : w.cell? ⟨b1, o1 + k * 5 + 2, none⟩ = some (.slice q.2.1.a q.2.1.n q.2.1.c) := by have := g' 2 (by decide); simpa [chnC] using this
           have g3 : w.cell? ⟨b1, o1 + k * 5 + 3, none⟩ = some (.slice q.2.2.a q.2.2.n q.2.2.c) := by have := g' 3 (by decide); simpa [chnC] using this
           have g4 : w.cell? ⟨b1, o1 + k * 5 + 4, none⟩ = some (.bool x.closed) := by have := g' 4 (by decide); simpa [chnC] using this
           have Q0 := xH1 ((show SlR [] w q.1 (ints x.items) x.items.length from hR.1).rd)
           have QL0 := xH1 (show SlR [] w q.1 (ints x.items) x.items.length from hR.1).len
           have QC0 := xH1 (show SlR [] w q.1 (ints x.items) x.items.length from hR.1).cap
           have Q1 := xH1 ((show SlR [] w q.2.1 (zH x.senders) x.senders.length from hR.2.1).rd)
           have QL1 := xH1 (show SlR [] w q.2.1 (zH x.senders) x.senders.length from hR.2.1).len
           have QC1 := xH1 (show SlR [] w q.2.1 (zH x.senders) x.senders.length from hR.2.1).cap
           have Q2 := xH1 ((show SlR [] w q.2.2 (ints x.getters) x.getters.length from hR.2.2).rd)
           have QL2 := xH1 (show SlR [] w q.2.2 (ints x.getters) x.getters.length from hR.2.2).len
           have QC2 := xH1 (show SlR [] w q.2.2 (ints x.getters) x.getters.length from hR.2.2).cap
           clear g' hx hxq hR
           replace g0 := zd h.fr.bel g0
           replace g1 := zd h.fr.bel g1
           replace g2 := zd h.fr.bel g2
           replace g3 := zd h.fr.bel g3
           replace g4 := zd h.fr.bel g4
           have HPF : Hid (allE (fun i => zY (s.chans.getD i zy) i) k ++ zY x k <+: allE (fun i => zY (s.chans.getD i zy) i) s.chans.length) := xH1 (by have h9 := zcg (fun i => zY (s.chans.getD i zy) i) hks; rw [← HX.out] at h9; exact h9)
           have HK1 : Hid (allE (fun i => zY (s.chans.getD i zy) i) (k + 1) = allE (fun i => zY (s.chans.getD i zy) i) k ++ zY x k) := xH1 (by rw [HX.out]; rfl)
           have h2 := h.alloc #[.int .i64 x.room, .slice q.1.a q.1.n q.1.c, .slice q.2.1.a q.2.1.n q.2.1.c, .slice q.2.2.a q.2.2.n q.2.2.c, .bool x.closed] 95
           have cx := h2.fr.c5 0 rfl
           have HKS := xH1 hks
           clear hks h
           have nq0 : q.2.1.n ≤ 1048576 := by rw [QL1.out, HX.out]; exact (HZ.out.qch k).2.1
           go_upto_region 45 with fail
           clear ea
           go_wp2
           clear cx g0 g1 g2 g3 g4
           go_loopw [143] (fun i wr2 => ∃ j : Nat, j ≤ q.2.1.n ∧ i = .int .i64 j ∧ WF w wr2 v [.blk wo.heap.size #[.int .i64 x.room, .slice q.1.a q.1.n q.1.c, .slice q.2.1.a q.2.1.n q.2.1.c, .slice q.2.2.a q.2.2.n q.2.2.c, .bool x.closed] 95] (([] : List Ent) ++ allE (fun i => zS (s.sems.getD i zE) i) s.sems.length ++ allE (fun i => zN (s.onces.getD i zp) i) s.onces.length ++ allE (fun i => zaf (s.groups.getD i zK) i) s.groups.length ++ allE (fun i => zam (s.bars.getD i zx) i) s.bars.length ++ allE (fun i => zY (s.chans.getD i zy) i) k ++ ((x.senders).map (fun w => (w.1, (8 : Int), (k : Int), w.2))).take j) (allE (fun i => zas (s.onces.getD i zp) i) s.onces.length)) (fun i _ => q.2.1.n - (intOf i).toNat)
           case atStart => exact ⟨0, by omega, rfl, by simpa using h2⟩
           case round =>
            clear h2
            obtain ⟨j, hj, rfl, h2⟩ := hrel
            by_cases hjt : j < q.2.1.n
            ·have hjl : j < (x.senders).length := by rw [← QL1.out]; exact hjt
             obtain ⟨b, o, eb, g'⟩ := ((h2.fr.rd Q1.out)).pair (by omega)
             obtain ⟨g1, g2⟩ := g' j hjl
             obtain ⟨y, et⟩ : ∃ y, y = (x.senders).getD j (0, 0) := ⟨_, rfl⟩
             rw [← et] at g1 g2
             have hsn : ((x.senders).map (fun w => (w.1, (8 : Int), (k : Int), w.2))).take j ++ [(y.1, (8 : Int), (k : Int), y.2)] = ((x.senders).map (fun w => (w.1, (8 : Int), (k : Int), w.2))).take (j + 1) := by
              have h9 := zbg ((x.senders).map (fun w => (w.1, (8 : Int), (k : Int), w.2))) ((fun w => (w.1, (8 : Int), (k : Int), w.2)) (0, 0)) (j := j) (by rw [List.length_map]; exact hjl)
              rwa [List.getD_eq_getElem?_getD, List.getElem?_map, List.getElem?_eq_getElem hjl, Option.map_some, Option.getD_some, show (x.senders)[j] = y by rw [et, List.getD_eq_getElem?_getD, List.getElem?_eq_getElem hjl]; rfl] at h9
             have hpre : (([] : List Ent) ++ allE (fun i => zS (s.sems.getD i zE) i) s.sems.length ++ allE (fun i => zN (s.onces.getD i zp) i) s.onces.length ++ allE (fun i => zaf (s.groups.getD i zK) i) s.groups.length ++ allE (fun i => zam (s.bars.getD i zx) i) s.bars.length ++ allE (fun i => zY (s.chans.getD i zy) i) k ++ ((x.senders).map (fun w => (w.1, (8 : Int), (k : Int), w.2))).take j) ++ [(y.1, (8 : Int), (k : Int), y.2)] <+: ents s := by
              rw [List.append_assoc, hsn]
              have e1 : (((x.senders).map (fun w => (w.1, (8 : Int), (k : Int), w.2))).take (j + 1)) <+: zY x k := by
               exact (List.take_prefix _ _).trans (List.prefix_append _ _)
              have e2 : allE (fun i => zY (s.chans.getD i zy) i) k ++ ((x.senders).map (fun w => (w.1, (8 : Int), (k : Int), w.2))).take (j + 1) <+: allE (fun i => zY (s.chans.getD i zy) i) s.chans.length := by
               exact ((List.prefix_append_right_inj _).2 e1).trans HPF.out
              have e3 := (List.prefix_append_right_inj (([] : List Ent) ++ allE (fun i => zS (s.sems.getD i zE) i) s.sems.length ++ allE (fun i => zN (s.onces.getD i zp) i) s.onces.length ++ allE (fun i => zaf (s.groups.getD i zK) i) s.groups.length ++ allE (fun i => zam (s.bars.getD i zx) i) s.bars.length)).2 e2
              have e4 : (([] : List Ent) ++ allE (fun i => zS (s.sems.getD i zE) i) s.sems.length ++ allE (fun i => zN (s.onces.getD i zp) i) s.onces.length ++ allE (fun i => zaf (s.groups.getD i zK) i) s.groups.length ++ allE (fun i => zam (s.bars.getD i zx) i) s.bars.length) ++ allE (fun i => zY (s.chans.getD i zy) i) s.chans.length <+: ents s := by
               unfold ents
               simp only [List.nil_append, List.append_assoc]
               exact List.prefix_refl _
              have e5 := e3.trans e4
              simpa only [List.append_assoc] using e5
             have hnot := zcI HNE.out hpre
             have HSN := xH1 hsn
             have HNT := xH1 hnot
             clear g' et hjl hsn hpre hnot
             have h3 := h2.alloc #[.int .i64 y.1, .int .i64 y.2] 155
             have cy := h3.fr.c2 0 rfl
             go_upto_region 48 with fail
             clear eb g1 g2
             have hcell := h3.fr.cell 2 0 rfl rfl
             go_wp2_with fail
             refine (zcU y.1 8 k y.2 (w.heap.size + 2) (w.heap.size + 1) _ _ hcell h3.wm HNT.out).mono ?_
             rintro e w6 ⟨rfl, hw6, hg6⟩
             have h4 := h3.add hw6 hg6
             rw [List.append_assoc, HSN.out] at h4
             clear h3 h2 hcell hw6 hg6
             go_wp2
             go_roundw
             case rel => exact ⟨j + 1, by omega, by go_num, h4.tail⟩
             case measure => simp [intOf]; omega
            ·obtain rfl : j = q.2.1.n := by omega
             clear hjt hj
             rw [List.take_of_length_le (by rw [List.length_map]; have := QL1.out; omega)] at h2
             have cx := h2.fr.c5 0 rfl
             have nq1 : q.2.2.n ≤ 1048576 := by rw [QL2.out, HX.out]; exact (HZ.out.qch k).2.2
             go_wp2
             clear cx
             go_loopw [158] (fun i wr2 => ∃ j : Nat, j ≤ q.2.2.n ∧ i = .int .i64 j ∧ WF w wr2 v [.blk wo.heap.size #[.int .i64 x.room, .slice q.1.a q.1.n q.1.c, .slice q.2.1.a q.2.1.n q.2.1.c, .slice q.2.2.a q.2.2.n q.2.2.c, .bool x.closed] 95] (([] : List Ent) ++ allE (fun i => zS (s.sems.getD i zE) i) s.sems.length ++ allE (fun i => zN (s.onces.getD i zp) i) s.onces.length ++ allE (fun i => zaf (s.groups.getD i zK) i) s.groups.length ++ allE (fun i => zam (s.bars.getD i zx) i) s.bars.length ++ allE (fun i => zY (s.chans.getD i zy) i) k ++ (x.senders).map (fun w => (w.1, (8 : Int), (k : Int), w.2)) ++ ((x.getters).map (fun t => (t, (9 : Int), (k : Int), (0 : Int)))).take j) (allE (fun i => zas (s.onces.getD i zp) i) s.onces.length)) (fun i _ => q.2.2.n - (intOf i).toNat)
             case atStart => exact ⟨0, by omega, rfl, by simpa using h2⟩
             case round =>
              clear h2
              obtain ⟨j, hj, rfl, h2⟩ := hrel
              by_cases hjt : j < q.2.2.n
              ·have hjl : j < (x.getters).length := by rw [← QL2.out]; exact hjt
               obtain ⟨b, o, eb, g'⟩ := ((h2.fr.rd Q2.out)).int (by omega)
               have g1 := g' j hjl
               obtain ⟨t, et⟩ : ∃ t, t = (x.getters).getD j 0 := ⟨_, rfl⟩
               rw [← et] at g1
               have hsn : ((x.getters).map (fun t => (t, (9 : Int), (k : Int), (0 : Int)))).take j ++ [(t, (9 : Int), (k : Int), (0 : Int))] = ((x.getters).map (fun t => (t, (9 : Int), (k : Int), (0 : Int)))).take (j + 1) := by
                have h9 := zbg ((x.getters).map (fun t => (t, (9 : Int), (k : Int), (0 : Int)))) ((fun t => (t, (9 : Int), (k : Int), (0 : Int))) 0) (j := j) (by rw [List.length_map]; exact hjl)
                rwa [List.getD_eq_getElem?_getD, List.getElem?_map, List.getElem?_eq_getElem hjl, Option.map_some, Option.getD_some, show (x.getters)[j] = t by rw [et, List.getD_eq_getElem?_getD, List.getElem?_eq_getElem hjl]; rfl] at h9
               have hpre : (([] : List Ent) ++ allE (fun i => zS (s.sems.getD i zE) i) s.sems.length ++ allE (fun i => zN (s.onces.getD i zp) i) s.onces.length ++ allE (fun i => zaf (s.groups.getD i zK) i) s.groups.length ++ allE (fun i => zam (s.bars.getD i zx) i) s.bars.length ++ allE (fun i => zY (s.chans.getD i zy) i) k ++ (x.senders).map (fun w => (w.1, (8 : Int), (k : Int), w.2)) ++ ((x.getters).map (fun t => (t, (9 : Int), (k : Int), (0 : Int)))).take j) ++ [(t, (9 : Int), (k : Int), (0 : Int))] <+: ents s := by
                rw [List.append_assoc, hsn]
                have e1 : ((x.senders).map (fun w => (w.1, (8 : Int), (k : Int), w.2)) ++ ((x.getters).map (fun t => (t, (9 : Int), (k : Int), (0 : Int)))).take (j + 1)) <+: zY x k := by
                 exact (List.prefix_append_right_inj _).2 (List.take_prefix _ _)
                have e2 : allE (fun i => zY (s.chans.getD i zy) i) k ++ (x.senders).map (fun w => (w.1, (8 : Int), (k : Int), w.2)) ++ ((x.getters).map (fun t => (t, (9 : Int), (k : Int), (0 : Int)))).take (j + 1) <+: allE (fun i => zY (s.chans.getD i zy) i) s.chans.length := by
                 rw [List.append_assoc]; exact ((List.prefix_append_right_inj _).2 e1).trans HPF.out
                have e3 := (List.prefix_append_right_inj (([] : List Ent) ++ allE (fun i => zS (s.sems.getD i zE) i) s.sems.length ++ allE (fun i => zN (s.onces.getD i zp) i) s.onces.length ++ allE (fun i => zaf (s.groups.getD i zK) i) s.groups.length ++ allE (fun i => zam (s.bars.getD i zx) i) s.bars.length)).2 e2
                have e4 : (([] : List Ent) ++ allE (fun i => zS (s.sems.getD i zE) i) s.sems.length ++ allE (fun i => zN (s.onces.getD i zp) i) s.onces.length ++ allE (fun i => zaf (s.groups.getD i zK) i) s.groups.length ++ allE (fun i => zam (s.bars.getD i zx) i) s.bars.length) ++ allE (fun i => zY (s.chans.getD i zy) i) s.chans.length <+: ents s := by
                 unfold ents
                 simp only [List.nil_append, List.append_assoc]
                 exact List.prefix_refl _
                have e5 := e3.trans e4
                simpa only [List.append_assoc] using e5
               have hnot := zcI HNE.out hpre
               have HSN := xH1 hsn
               have HNT := xH1 hnot
               clear g' et hjl hsn hpre hnot
               have h3 := h2
               go_upto_region 53 with fail
               clear eb g1
               have hcell := h3.fr.cell 1 0 rfl rfl
               go_wp2_with fail
               refine (zcU t 9 k 0 (w.heap.size + 2) (w.heap.size + 1) _ _ hcell h3.wm HNT.out).mono ?_
               rintro e w6 ⟨rfl, hw6, hg6⟩
               have h4 := h3.add hw6 hg6
               rw [List.append_assoc, HSN.out] at h4
               clear h3 h2 hcell hw6 hg6
               go_wp2
               go_roundw
               case rel => exact ⟨j + 1, by omega, by go_num, h4⟩
               case measure => simp [intOf]; omega
              ·obtain rfl : j = q.2.2.n := by omega
               clear hjt hj
               rw [List.take_of_length_le (by rw [List.length_map]; have := QL2.out; omega)] at h2
               have e1 : ([] : List Ent) ++ allE (fun i => zS (s.sems.getD i zE) i) s.sems.length ++ allE (fun i => zN (s.onces.getD i zp) i) s.onces.length ++ allE (fun i => zaf (s.groups.getD i zK) i) s.groups.length ++ allE (fun i => zam (s.bars.getD i zx) i) s.bars.length ++ allE (fun i => zY (s.chans.getD i zy) i) (k + 1) = ([] : List Ent) ++ allE (fun i => zS (s.sems.getD i zE) i) s.sems.length ++ allE (fun i => zN (s.onces.getD i zp) i) s.onces.length ++ allE (fun i => zaf (s.groups.getD i zK) i) s.groups.length ++ allE (fun i => zam (s.bars.getD i zx) i) s.bars.length ++ allE (fun i => zY (s.chans.getD i zy) i) k ++ (x.senders).map (fun w => (w.1, (8 : Int), (k : Int), w.2)) ++ (x.getters).map (fun t => (t, (9 : Int), (k : Int), (0 : Int))) := by
                rw [HK1.out]
                simp only [zY, List.append_assoc]
               rw [← e1] at h2
               clear e1
               have h4 := h2.tail
               clear h2
               go_wp2
               go_roundw
               case rel => exact ⟨k + 1, by omega, by go_num, h4⟩
               case measure => simp [intOf]; omega
          ·obtain rfl : k = v.ch.n := by omega
           clear hlt hk
           rw [HS.out.ch.len] at h
           have he : ([] : List Ent) ++ allE (fun i => zS (s.sems.getD i zE) i) s.sems.length ++ allE (fun i => zN (s.onces.getD i zp) i) s.onces.length ++ allE (fun i => zaf (s.groups.getD i zK) i) s.groups.length ++ allE (fun i => zam (s.bars.getD i zx) i) s.bars.length ++ allE (fun i => zY (s.chans.getD i zy) i) s.chans.length = ents s := by
            unfold ents
            simp only [List.nil_append, List.append_assoc]
           rw [he] at h
           have cc := h.fr.cell 0 0 rfl rfl
           go_wp2
           exact bodyPost_ret (v := .tuple #[.map (some (w.heap.size + 1)), .map (some (w.heap.size + 3))]) (by simp [results, Try.results81, go_sem]) rfl ⟨rfl, h.wm, h.om, h.fr.bel⟩
end Go.Proofs.Ytppoohbkkdgljaa
