/- Part of a proof: RStart. -/
import Derived.Test.YtfpgijihiifogaaQMNewS
import Derived.Test.YtfpgijihiifogaaQPStart
import Derived.Test.YtfpgijihiifogaaQMOn
set_option maxRecDepth 100000
set_option maxHeartbeats 16000000
namespace Go.Proofs.Ytfpgijihiifogaa
open Go.RowKit
def startR (p : Pg) (a b o c d e : Nat) : StD := ⟨(p.threads.take a).map fun _ => 0, (p.threads.take a).map fun t => if t.length = 0 then 3 else 0, (p.sems.take b).map fun n => ⟨n, n, []⟩, List.replicate o noOnce, (p.groups.take c).map fun n => ⟨n, []⟩, (p.barriers.take d).map fun n => ⟨n, 0, []⟩, (p.rooms.take e).map fun n => ⟨n, [], [], [], false⟩, [], 0⟩
theorem startR_all (p : Pg) : startR p p.threads.length p.sems.length 3 p.groups.length p.barriers.length p.rooms.length = startOf p := by unfold startR startOf; simp only [List.take_length]
abbrev bR (w : World) (V : StV) (u : PV) : List It := [.blk (w.heap.size + 1 + 1) (svC V) 44, .blk (w.heap.size + 1) zC 44, .blk w.heap.size (pvC u) 31]
abbrev stVZ : StV := ⟨nilV, nilV, nilV, nilV, nilV, nilV, nilV, nilV, 0⟩
theorem take_snocR {α β : Type} (g : α → β) (l : List α) (d : α) {j : Nat} (hj : j < l.length) : (l.take (j + 1)).map g = (l.take j).map g ++ [g (l.getD j d)] := by rw [← take_snoc l d hj, List.map_append]; rfl
theorem SlR.none {S S' : List Nat} {w w' : World} {q : SlV} (h : SlR S w q [] 0) : SlR S' w' q [] 0 := ⟨h.len, .inl rfl, .inl rfl, h.cap⟩
theorem Sf.zero {w W : World} {l : List It} (F : Fr w W l) : Sf w W l stVZ ⟨[], [], [], [], []⟩ ⟨[], [], [], [], [], [], [], [], 0⟩ :=
 ⟨F, World.ownsRow_nil _ _ _ _, rfl, World.ownsRow_nil _ _ _ _, rfl, World.ownsRow_nil _ _ _ _, rfl, World.ownsRow_nil _ _ _ _, rfl, World.ownsRow_nil _ _ _ _, rfl, World.ownsRow_nil _ _ _ _, rfl, World.ownsRow_nil _ _ _ _, rfl, World.ownsRow_nil _ _ _ _, rfl, rfl, nofun, nofun, nofun, fun q hq => ⟨(F.inside q hq).2, fun hm => by
  obtain ⟨z, hz, hzk⟩ := List.mem_filterMap.1 hm
  simp only [nilV, List.mem_cons, List.not_mem_nil, or_false] at hz
  rcases hz with rfl | rfl | rfl | rfl | rfl | rfl | rfl | rfl <;> cases hzk⟩, ⟨InL.nil, InL.nil, InL.nil, InL.nil, InL.nil⟩⟩
theorem specStart_ok (u : PV) (p : Pg) (w : World) (hp : RdP w u p) (hv : progValid p = true) :
  Calls Try.prog 21 #[.agg #[.slice u.s u.ns u.cs, .slice u.g u.ng u.cg, .slice u.b u.nb u.cb, .slice u.r u.nr u.cr, .slice u.t u.nt u.ct]] w fun e w' => ∃ (v : StV) (L : StL), e = .returned (.tuple #[v.val, .bool true]) ∧ StO [] w.heap.size w' v L (startOf p) ∧ NewB w.heap.size L ∧ Below w.heap.size w w' := by
 have HP := xH1 hp
 have HV := xH1 hv
 have HZ := xH1 (valid_Small hv hp)
 have hvs := valid_small hv
 have VS := xH1 hvs
 have n1 : u.nt ≤ 4 := by rw [← hp.lt]; omega
 have n2 : u.ns ≤ 3 := by rw [← hp.ls]; omega
 have n3 : u.ng ≤ 3 := by rw [← hp.lg]; omega
 have n4 : u.nb ≤ 3 := by rw [← hp.lb]; omega
 have n5 : u.nr ≤ 3 := by rw [← hp.lr]; omega
 clear hp hv hvs
 have F := (((Fr.start w).alloc (pvC u) 31).alloc zC 44).alloc zC 44
 simp only [World.size_alloc] at F
 have cp := F.c5 2 rfl
 go_enter Try.func21, Try.ntmps21
 go_wp2_with fail
 refine (specProgValid_any u p _ (HP.out.below F.bel) HZ.out).mono ?_
 rintro e w1 ⟨rfl, hb⟩
 replace F := F.call hb
 replace cp := F.c5 2 rfl
 clear hb
 rw [HV.out]
 clear cp
 have h : Sf w w1 (bR w stVZ u) stVZ ⟨[], [], [], [], []⟩ (startR p 0 0 0 0 0 0) := Sf.zero F
 clear F
 have HN := NewB.nil w.heap.size
 have cp := h.c5 2 rfl
 go_wp2
 clear cp
 go_loopw [5] (fun i wr => ∃ (k : Nat) (V : StV), k ≤ u.nt ∧ i = .int .i64 k ∧ Sf w wr (bR w V u) V ⟨[], [], [], [], []⟩ (startR p k 0 0 0 0 0)) (fun i _ => u.nt - (intOf i).toNat)
 case atStart => exact ⟨0, _, by omega, rfl, h⟩
 case round =>
  clear h
  obtain ⟨k, V, hk, rfl, h⟩ := hrel
  have cp := h.c5 2 rfl
  by_cases hlt : k < u.nt
  ·have hkp : k < p.threads.length := by rw [HP.out.lt]; exact hlt
   obtain ⟨t, ht⟩ : ∃ t, t = p.threads.getD k [] := ⟨_, rfl⟩
   have HPK : Hid (startR p (k + 1) 0 0 0 0 0 = { startR p k 0 0 0 0 0 with places := (startR p k 0 0 0 0 0).places ++ [0], status := (startR p k 0 0 0 0 0).status ++ [rest p k 0] }) := xH1 (by
    have e : rest p k 0 = if t.length = 0 then 3 else 0 := by
     unfold rest opsOf
     rw [show ((k : Nat) : Int).toNat = k from rfl, ← ht]
     by_cases h0 : t.length = 0
     ·rw [if_pos h0, if_pos (by omega)]
     ·rw [if_neg h0, if_neg (by omega)]
    unfold startR
    rw [take_snocR _ p.threads [] hkp, take_snocR _ p.threads [] hkp, ← ht, e])
   have HVN : Hid (V.pl.n = k ∧ V.st.n = k) := xH1 ⟨by rw [h.st.npl]; show ((p.threads.take k).map _).length = k; rw [List.length_map, List.length_take]; omega, by rw [h.st.nst]; show ((p.threads.take k).map _).length = k; rw [List.length_map, List.length_take]; omega⟩
   have HTK : Hid (0 ≤ (k : Int) ∧ (k : Int) < p.threads.length) := xH1 ⟨by omega, by omega⟩
   have h2 := h.alloc #[.int .i64 0] 3
   have co := h.c9 0 rfl
   clear hkp ht
   go_upto_region 7 with fail
   go_upto_region 8 with (at_builtin; refine h2.app_pl rfl _ _ rfl rfl rfl (Rd.of_blk (h2.fr.blk 0 rfl)) (by have := HVN.out; omega) ?_; intro r W5 h5; have co := h5.c9 1 rfl; have h6 := (h5.set 1 rfl 0 r.val).sub (l' := bR w { V with pl := r } u) (.cons _ (.refl _)))
   obtain ⟨W6, hw6, h7⟩ := h6.named
   rw [← hw6]
   clear hw6 h6 h5 co h2 h cp
   apply wp_rk 6 [.k _, .k _, .k _, .k _, .r fun dz uz wz => (uz = .int .i64 (rest p k 0)), .r fun dz uz wz => (∃ gz : Nat, uz = .slice (some ⟨gz, 0, none⟩) 1 1 ∧ Blk wz gz #[.int .i64 (rest p k 0)] 3)] ⟨fun _ _ _ _ _ h => h, fun _ _ _ _ hb ⟨g, e, h⟩ => ⟨g, e, h.below hb⟩, trivial⟩ ?s1 ?e1
   case s1 =>
    repeat' apply And.intro
    all_goals first | trivial | (intro ρ w1 hG hfr hd; obtain ⟨fc, ff⟩ := fcff hfr; have f4 := hfr (.tmp 4) rfl; have f1 := hfr (.tmp 1) rfl; have f5 := hfr (.tmp 5) rfl; have F1 := h7.fr.call hG; have co := F1.c9 0 rfl; have cp := F1.c5 2 rfl; clear F1)
    exact rk0; exact rk1; exact rk0; exact rk0
    ·obtain ⟨d0, d1, -⟩ := hd
     have d0 : ρ (.tmp 36) = _ := d0
     have d1 : ρ (.tmp 37) = _ := d1
     refine gives_call (by go_simp; exact ⟨⟨rfl, rfl⟩, rfl⟩) ?_
     refine (specRest7_ok u p k 0 _ ((HP.out.below h7.bel).below hG) HTK.out HZ.out).mono ?_
     rintro e w2 ⟨rfl, hb⟩
     exact ⟨_, rfl, hb, rfl, xN1, hG.trans (hb.mono hG.size)⟩
    ·obtain ⟨d0, -⟩ := hd
     have d0 : ((ρ (.tmp 38)) = .int .i64 (rest p k 0)) := d0
     refine gives_val (u := .slice (some ⟨w1.heap.size, 0, none⟩) 1 1) (w' := w1.alloc (.cells #[.int .i64 (rest p k 0)] 3)) (by go_simp) ⟨xA1, ⟨_, rfl, Blk.new _ _ _⟩, xN1, hG.alloc hG.size _⟩
   intro w2 hG
   refine rk_end ?_
   intro xv4 hv4 xv5 hv5
   obtain ⟨gz, rfl, kL⟩ := hv5
   have h8 := h7.call hG
   clear h7 hG hv4
   go_wp2_with (at_builtin; refine h8.app_st rfl _ _ rfl rfl rfl (Rd.of_blk kL) (by have := HVN.out; show V.st.n + 1 ≤ _; omega) ?_; intro r' W5 h5; have co := h5.c9 0 rfl; have h6 := (h5.set 0 rfl 1 r'.val).sub (l' := bR w { V with pl := r, st := r' } u) (.refl _))
   go_roundw
   case rel => exact ⟨k + 1, _, by omega, by go_num, by rw [HPK.out]; exact h6⟩
   case measure => simp [intOf]; omega
  ·obtain rfl : k = u.nt := by omega
   clear hlt hk
   have HN := NewB.nil w.heap.size
   clear cp
   have cp := h.c5 2 rfl
   go_wp2
   clear cp
   go_loopw [6] (fun i wr => ∃ (k : Nat) (V : StV) (L : StL), k ≤ u.ns ∧ i = .int .i64 k ∧ Sf w wr (bR w V u) V L (startR p u.nt k 0 0 0 0) ∧ NewB w.heap.size L) (fun i _ => u.ns - (intOf i).toNat)
   case atStart => exact ⟨0, _, _, by omega, rfl, h, HN⟩
   case round =>
    clear h HN
    obtain ⟨k, V, L, hk, rfl, h, HN⟩ := hrel
    have cp := h.c5 2 rfl
    by_cases hlt : k < u.ns
    ·have hkp : k < p.sems.length := by rw [HP.out.ls]; exact hlt
     obtain ⟨b1, o1, e1, g'⟩ := HP.out.rs.int (by omega)
     have g1 := g' k hkp
     obtain ⟨x0, hx⟩ : ∃ x, x = p.sems.getD k 0 := ⟨_, rfl⟩
     rw [← hx] at g1
     have HPK : Hid ((startR p u.nt (k + 1) 0 0 0 0) = { (startR p u.nt k 0 0 0 0) with sems := (startR p u.nt k 0 0 0 0).sems ++ [⟨x0, x0, []⟩] }) := xH1 (by unfold startR; rw [take_snocR _ p.sems 0 hkp, ← hx])
     have HXB : Hid (1 ≤ x0 ∧ x0 ≤ 9) := xH1 (by rw [hx]; exact (within_facts (valid_lists HV.out).1).2 k hkp)
     replace g1 := keepc h.bel g1
     have HVN : Hid (V.se.n = k) := xH1 (by rw [h.st.nse]; show ((p.sems.take k).map _).length = k; rw [List.length_map, List.length_take]; omega)
     have i0 : (0 : Int) ≤ (k : Int) := by omega
     have i1 : (k : Int) < (u.ns : Int) := by omega
     rw [e1] at cp
     clear g' hkp hx
     clear e1
     go_wp2_with fail
     refine (specNewSem_ok x0 _ HXB.out).mono ?_
     rintro e w5 ⟨s1, rfl, hs0, hb⟩
     have hq : semR (foots (bR w V u) ++ V.blks) w5 ⟨x0, x0, []⟩ s1 := h.apart hs0
     have HN2 := HN.se1 (x := ⟨x0, x0, []⟩) (q := s1) (newS.lower hs0.new h.bel.size)
     replace h := h.call hb
     have HQ := xH1 hq
     clear hq hs0 hb g1 cp
     have h2 := h.alloc #[.int .i64 x0, .int .i64 x0, .slice s1.a s1.n s1.c] 79
     have co := h2.c9 1 rfl
     have cx := h2.c3 0 rfl
     go_upto_region 13 with fail
     obtain ⟨w6, hw, h3⟩ := h2.named
     rw [← hw]
     clear hw h2 h co cx
     have co := h3.c9 1 rfl
     have cx := h3.c3 0 rfl
     have h4 := h3.alloc #[.int .i64 x0, .int .i64 x0, .slice s1.a s1.n s1.c] 79
     go_wp2_with (at_builtin; refine h4.app_se (x := ⟨x0, x0, []⟩) (q := s1) rfl _ _ rfl rfl rfl (Rd.of_blk (h4.fr.blk 0 rfl)) (SlR.none HQ.out) (by have := HVN.out; omega) ?_; intro r W5 h5; have co := h5.c9 2 rfl; have h6 := (h5.set 2 rfl 2 r.val).sub (l' := bR w { V with se := r } u) (.cons _ (.cons _ (.refl _))))
     go_roundw
     case rel => exact ⟨k + 1, _, _, by omega, by go_num, by rw [HPK.out]; exact h6, HN2⟩
     case measure => simp [intOf]; omega
    ·obtain rfl : k = u.ns := by omega
     clear hlt hk
     clear cp
     have cp := h.c5 2 rfl
     go_wp2
     clear cp
     go_loopw [9] (fun i wr => ∃ (k : Nat) (V : StV) (L : StL), k ≤ 3 ∧ i = .int .i64 k ∧ Sf w wr (bR w V u) V L (startR p u.nt u.ns k 0 0 0) ∧ NewB w.heap.size L) (fun i _ => 3 - (intOf i).toNat)
     case atStart => exact ⟨0, _, _, by omega, rfl, h, HN⟩
     case round =>
      clear h HN
      obtain ⟨k, V, L, hk, rfl, h, HN⟩ := hrel
      have cp := h.c5 2 rfl
      by_cases hlt : k < 3
      ·have HPK : Hid ((startR p u.nt u.ns (k + 1) 0 0 0) = { (startR p u.nt u.ns k 0 0 0) with onces := (startR p u.nt u.ns k 0 0 0).onces ++ [noOnce] }) := xH1 (by unfold startR; rw [List.replicate_succ'])
       have HVN : Hid (V.on.n = k) := xH1 (by rw [h.st.non]; show (List.replicate k noOnce).length = k; rw [List.length_replicate])
       have h2 := h.alloc #[.int .i64 0, .int .i64 0, .int .i64 0, .slice none 0 0] 83
       have co := h.c9 0 rfl
       go_upto_region 17 with fail
       go_wp2_with (at_builtin; refine h2.app_on (x := noOnce) (q := nilV) rfl _ _ rfl rfl rfl (Rd.of_blk (h2.fr.blk 0 rfl)) (SlR.nil _ _) (by have := HVN.out; omega) ?_; intro r W5 h5; have co := h5.c9 1 rfl; have h6 := (h5.set 1 rfl 3 r.val).sub (l' := bR w { V with on := r } u) (.cons _ (.refl _)))
       go_roundw
       case rel => exact ⟨k + 1, _, _, by omega, by go_num, by rw [HPK.out]; exact h6, HN.on1 (.inl rfl)⟩
       case measure => simp [intOf]; omega
      ·obtain ⟨k3, e3⟩ : ∃ x, x = k := ⟨_, rfl⟩
       rw [← e3] at h hlt hk ⊢
       have HK3 : Hid (k3 = 3) := xH1 (by omega)
       clear hk e3 k
       clear cp
       have cp := h.c5 2 rfl
       go_wp2
       clear cp
       clear hlt
       go_loopw [10] (fun i wr => ∃ (k : Nat) (V : StV) (L : StL), k ≤ u.ng ∧ i = .int .i64 k ∧ Sf w wr (bR w V u) V L (startR p u.nt u.ns k3 k 0 0) ∧ NewB w.heap.size L) (fun i _ => u.ng - (intOf i).toNat)
       case atStart => exact ⟨0, _, _, by omega, rfl, h, HN⟩
       case round =>
        clear h HN
        obtain ⟨k, V, L, hk, rfl, h, HN⟩ := hrel
        have cp := h.c5 2 rfl
        by_cases hlt : k < u.ng
        ·have hkp : k < p.groups.length := by rw [HP.out.lg]; exact hlt
         obtain ⟨b1, o1, e1, g'⟩ := HP.out.rg.int (by omega)
         have g1 := g' k hkp
         obtain ⟨x0, hx⟩ : ∃ x, x = p.groups.getD k 0 := ⟨_, rfl⟩
         rw [← hx] at g1
         have HPK : Hid ((startR p u.nt u.ns k3 (k + 1) 0 0) = { (startR p u.nt u.ns k3 k 0 0) with groups := (startR p u.nt u.ns k3 k 0 0).groups ++ [⟨x0, []⟩] }) := xH1 (by unfold startR; rw [take_snocR _ p.groups 0 hkp, ← hx])
         have HXB : Hid (0 ≤ x0 ∧ x0 ≤ 9) := xH1 (by rw [hx]; exact (within_facts (valid_lists HV.out).2.1).2 k hkp)
         replace g1 := keepc h.bel g1
         have HVN : Hid (V.gr.n = k) := xH1 (by rw [h.st.ngr]; show ((p.groups.take k).map _).length = k; rw [List.length_map, List.length_take]; omega)
         have i0 : (0 : Int) ≤ (k : Int) := by omega
         have i1 : (k : Int) < (u.ng : Int) := by omega
         rw [e1] at cp
         clear g' hkp hx
         have co := h.c9 0 rfl
         have EP := xH1 e1
         clear e1
         go_upto_region 21 with fail
         apply wp_rk 9 [.k _, .k _, .k _, .k _, .k _, .k _, .k _, .k _, .r fun dz uz wz => (∃ gz : Nat, uz = .slice (some ⟨gz, 0, none⟩) 1 1 ∧ Blk wz gz #[.int .i64 x0, .slice none 0 0] 85)] ⟨fun _ _ _ _ hb ⟨g, e, h⟩ => ⟨g, e, h.below hb⟩, trivial⟩ ?s2 ?e2
         case s2 =>
          repeat' apply And.intro
          all_goals first | trivial | (intro ρ w1 hG hfr hd; obtain ⟨fc, ff⟩ := fcff hfr; have f4 := hfr (.tmp 4) rfl; have f1 := hfr (.tmp 1) rfl; have f10 := hfr (.tmp 10) rfl; have F1 := h.fr.call hG; have co := F1.c9 0 rfl; have cp := F1.c5 2 rfl; have g1 := (fun _ => keepc hG g1) F1; clear F1)
          exact rk0; exact rk1; exact rk0; exact rk1; exact rk0
          ·have d : ρ (.tmp _) = _ := hd.1; have d' : ρ (.tmp _) = _ := hd.2.1; rw [EP.out] at d; exact rk0
          exact rk1; exact rk1
          ·obtain ⟨d0, -⟩ := hd
           have d0 : ρ (.tmp 88) = _ := d0
           refine gives_val (u := .slice (some ⟨w1.heap.size, 0, none⟩) 1 1) (w' := w1.alloc (.cells #[.int .i64 x0, .slice none 0 0] 85)) (by go_simp) ⟨xA1, ⟨_, rfl, Blk.new _ _ _⟩, xN1, hG.alloc hG.size _⟩
         intro w2 hG
         refine rk_end ?_
         intro xv8 hv8
         obtain ⟨gz, rfl, kL⟩ := hv8
         have h2 := h.call hG
         clear h hG
         go_wp2_with (at_builtin; refine h2.app_gr (x := ⟨x0, []⟩) (q := nilV) rfl _ _ rfl rfl rfl (Rd.of_blk kL) (SlR.nil _ _) (by have := HVN.out; omega) ?_; intro r W5 h5; have co := h5.c9 0 rfl; have h6 := (h5.set 0 rfl 4 r.val).sub (l' := bR w { V with gr := r } u) (.refl _))
         go_roundw
         case rel => exact ⟨k + 1, { V with gr := r }, { L with gr := L.gr ++ [(⟨x0, []⟩, nilV)] }, by omega, by go_num, by rw [HPK.out]; exact h6, HN.gr1 (.inl rfl)⟩
         case measure => simp [intOf]; omega
        ·obtain rfl : k = u.ng := by omega
         clear hlt hk
         clear cp
         have cp := h.c5 2 rfl
         go_wp2
         clear cp
         go_loopw [11] (fun i wr => ∃ (k : Nat) (V : StV) (L : StL), k ≤ u.nb ∧ i = .int .i64 k ∧ Sf w wr (bR w V u) V L (startR p u.nt u.ns k3 u.ng k 0) ∧ NewB w.heap.size L) (fun i _ => u.nb - (intOf i).toNat)
         case atStart => exact ⟨0, _, _, by omega, rfl, h, HN⟩
         case round =>
          clear h HN
          obtain ⟨k, V, L, hk, rfl, h, HN⟩ := hrel
          have cp := h.c5 2 rfl
          by_cases hlt : k < u.nb
          ·have hkp : k < p.barriers.length := by rw [HP.out.lb]; exact hlt
           obtain ⟨b1, o1, e1, g'⟩ := HP.out.rb.int (by omega)
           have g1 := g' k hkp
           obtain ⟨x0, hx⟩ : ∃ x, x = p.barriers.getD k 0 := ⟨_, rfl⟩
           rw [← hx] at g1
           have HPK : Hid ((startR p u.nt u.ns k3 u.ng (k + 1) 0) = { (startR p u.nt u.ns k3 u.ng k 0) with bars := (startR p u.nt u.ns k3 u.ng k 0).bars ++ [⟨x0, 0, []⟩] }) := xH1 (by unfold startR; rw [take_snocR _ p.barriers 0 hkp, ← hx])
           have HXB : Hid (1 ≤ x0 ∧ x0 ≤ 6) := xH1 (by rw [hx]; exact (within_facts (valid_lists HV.out).2.2.1).2 k hkp)
           replace g1 := keepc h.bel g1
           have HVN : Hid (V.ba.n = k) := xH1 (by rw [h.st.nba]; show ((p.barriers.take k).map _).length = k; rw [List.length_map, List.length_take]; omega)
           have i0 : (0 : Int) ≤ (k : Int) := by omega
           have i1 : (k : Int) < (u.nb : Int) := by omega
           rw [e1] at cp
           clear g' hkp hx
           clear e1
           go_wp2_with fail
           refine (specNewBar_ok x0 _ HXB.out).mono ?_
           rintro e w5 ⟨s1, rfl, hs0, hb⟩
           have hq : barR (foots (bR w V u) ++ V.blks) w5 ⟨x0, 0, []⟩ s1 := h.apart hs0
           have HN2 := HN.ba1 (x := ⟨x0, 0, []⟩) (q := s1) (newS.lower hs0.new h.bel.size)
           replace h := h.call hb
           have HQ := xH1 hq
           clear hq hs0 hb g1 cp
           have h2 := h.alloc #[.int .i64 x0, .int .i64 0, .slice s1.a s1.n s1.c] 87
           have co := h2.c9 1 rfl
           have cx := h2.c3 0 rfl
           go_upto_region 26 with fail
           obtain ⟨w6, hw, h3⟩ := h2.named
           rw [← hw]
           clear hw h2 h co cx
           have co := h3.c9 1 rfl
           have cx := h3.c3 0 rfl
           have h4 := h3.alloc #[.int .i64 x0, .int .i64 0, .slice s1.a s1.n s1.c] 87
           go_wp2_with (at_builtin; refine h4.app_ba (x := ⟨x0, 0, []⟩) (q := s1) rfl _ _ rfl rfl rfl (Rd.of_blk (h4.fr.blk 0 rfl)) (SlR.none HQ.out) (by have := HVN.out; omega) ?_; intro r W5 h5; have co := h5.c9 2 rfl; have h6 := (h5.set 2 rfl 5 r.val).sub (l' := bR w { V with ba := r } u) (.cons _ (.cons _ (.refl _))))
           go_roundw
           case rel => exact ⟨k + 1, _, _, by omega, by go_num, by rw [HPK.out]; exact h6, HN2⟩
           case measure => simp [intOf]; omega
          ·obtain rfl : k = u.nb := by omega
           clear hlt hk
           clear cp
           have cp := h.c5 2 rfl
           go_wp2
           clear cp
           go_loopw [14] (fun i wr => ∃ (k : Nat) (V : StV) (L : StL), k ≤ u.nr ∧ i = .int .i64 k ∧ Sf w wr (bR w V u) V L (startR p u.nt u.ns k3 u.ng u.nb k) ∧ NewB w.heap.size L) (fun i _ => u.nr - (intOf i).toNat)
           case atStart => exact ⟨0, _, _, by omega, rfl, h, HN⟩
           case round =>
            clear h HN
            obtain ⟨k, V, L, hk, rfl, h, HN⟩ := hrel
            have cp := h.c5 2 rfl
            by_cases hlt : k < u.nr
            ·have hkp : k < p.rooms.length := by rw [HP.out.lr]; exact hlt
             obtain ⟨b1, o1, e1, g'⟩ := HP.out.rr.int (by omega)
             have g1 := g' k hkp
             obtain ⟨x0, hx⟩ : ∃ x, x = p.rooms.getD k 0 := ⟨_, rfl⟩
             rw [← hx] at g1
             have HPK : Hid ((startR p u.nt u.ns k3 u.ng u.nb (k + 1)) = { (startR p u.nt u.ns k3 u.ng u.nb k) with chans := (startR p u.nt u.ns k3 u.ng u.nb k).chans ++ [⟨x0, [], [], [], false⟩] }) := xH1 (by unfold startR; rw [take_snocR _ p.rooms 0 hkp, ← hx])
             have HXB : Hid (0 ≤ x0 ∧ x0 ≤ 4) := xH1 (by rw [hx]; exact (within_facts (valid_lists HV.out).2.2.2).2 k hkp)
             replace g1 := keepc h.bel g1
             have HVN : Hid (V.ch.n = k) := xH1 (by rw [h.st.nch]; show ((p.rooms.take k).map _).length = k; rw [List.length_map, List.length_take]; omega)
             have i0 : (0 : Int) ≤ (k : Int) := by omega
             have i1 : (k : Int) < (u.nr : Int) := by omega
             rw [e1] at cp
             clear g' hkp hx
             clear e1
             go_wp2_with fail
             refine (specNewChan_ok x0 _ HXB.out).mono ?_
             rintro e w5 ⟨s1, s2, s3, rfl, hs0, hs1, hs2, hb⟩
             have hq : chnR (foots (bR w V u) ++ V.blks) w5 ⟨x0, [], [], [], false⟩ (s1, s2, s3) := ⟨h.apart hs0, h.apart hs1, h.apart hs2⟩
             have HN2 := HN.ch1 (x := ⟨x0, [], [], [], false⟩) (q := (s1, s2, s3)) (⟨newS.lower hs0.new h.bel.size, newS.lower hs1.new h.bel.size, newS.lower hs2.new h.bel.size⟩)
             replace h := h.call hb
             have HQ := xH1 hq
             clear hq hs0 hs1 hs2 hb g1 cp
             have h2 := h.alloc #[.int .i64 x0, .slice s1.a s1.n s1.c, .slice s2.a s2.n s2.c, .slice s3.a s3.n s3.c, .bool false] 92
             have co := h2.c9 1 rfl
             have cx := h2.c5 0 rfl
             go_upto_region 31 with fail
             obtain ⟨w6, hw, h3⟩ := h2.named
             rw [← hw]
             clear hw h2 h co cx
             have co := h3.c9 1 rfl
             have cx := h3.c5 0 rfl
             have h4 := h3.alloc #[.int .i64 x0, .slice s1.a s1.n s1.c, .slice s2.a s2.n s2.c, .slice s3.a s3.n s3.c, .bool false] 92
             go_wp2_with (at_builtin; refine h4.app_ch (x := ⟨x0, [], [], [], false⟩) (q := (s1, s2, s3)) rfl _ _ rfl rfl rfl (Rd.of_blk (h4.fr.blk 0 rfl)) ⟨SlR.none HQ.out.1, SlR.none HQ.out.2.1, SlR.none HQ.out.2.2⟩ (by have := HVN.out; omega) ?_; intro r W5 h5; have co := h5.c9 2 rfl; have h6 := (h5.set 2 rfl 6 r.val).sub (l' := bR w { V with ch := r } u) (.cons _ (.cons _ (.refl _))))
             go_roundw
             case rel => exact ⟨k + 1, _, _, by omega, by go_num, by rw [HPK.out]; exact h6, HN2⟩
             case measure => simp [intOf]; omega
            ·obtain rfl : k = u.nr := by omega
             clear hlt hk
             have hall : startR p u.nt u.ns k3 u.ng u.nb u.nr = startOf p := by rw [HK3.out, ← HP.out.lt, ← HP.out.ls, ← HP.out.lg, ← HP.out.lb, ← HP.out.lr]; exact startR_all p
             rw [hall] at h
             have co := h.c9 0 rfl
             have cr := h.c9 1 rfl
             have h7 := h.set9 1 rfl (.slice V.pl.a V.pl.n V.pl.c) (.slice V.st.a V.st.n V.st.c) (.slice V.se.a V.se.n V.se.c) (.slice V.on.a V.on.n V.on.c) (.slice V.gr.a V.gr.n V.gr.c) (.slice V.ba.a V.ba.n V.ba.c) (.slice V.ch.a V.ch.n V.ch.c) (.slice V.sa.a V.sa.n V.sa.c) (.int .i64 V.fl)
             go_wp2
             exact bodyPost_ret (v := .tuple #[.agg #[.slice V.pl.a V.pl.n V.pl.c, .slice V.st.a V.st.n V.st.c, .slice V.se.a V.se.n V.se.c, .slice V.on.a V.on.n V.on.c, .slice V.gr.a V.gr.n V.gr.c, .slice V.ba.a V.ba.n V.ba.c, .slice V.ch.a V.ch.n V.ch.c, .slice V.sa.a V.sa.n V.sa.c, .int .i64 V.fl], .bool true]) (by simp [results, Try.results21, go_sem, h7.c9 1 rfl]) rfl ⟨V, L, rfl, h7.st.sub (by simp), HN, h7.bel⟩
theorem specStart_no (u : PV) (p : Pg) (w : World) (hp : RdP w u p) (hz : Small u p) (hv : progValid p = false) :
  Calls Try.prog 21 #[.agg #[.slice u.s u.ns u.cs, .slice u.g u.ng u.cg, .slice u.b u.nb u.cb, .slice u.r u.nr u.cr, .slice u.t u.nt u.ct]] w fun e w' => e = .returned (.tuple #[.agg #[.slice none 0 0, .slice none 0 0, .slice none 0 0, .slice none 0 0, .slice none 0 0, .slice none 0 0, .slice none 0 0, .slice none 0 0, .int .i64 0], .bool false]) ∧ Below w.heap.size w w' := by
 have HP := xH1 hp
 have HV := xH1 hv
 have HZ := xH1 hz
 clear hp hv hz
 have F := (((Fr.start w).alloc (pvC u) 31).alloc zC 44).alloc zC 44
 simp only [World.size_alloc] at F
 have cp := F.c5 2 rfl
 have cz := F.c9 1 rfl
 have cy := F.c9 0 rfl
 go_enter Try.func21, Try.ntmps21
 go_wp2_with fail
 refine (specProgValid_any u p _ (HP.out.below F.bel) HZ.out).mono ?_
 rintro e w1 ⟨rfl, hb⟩
 replace F := F.call hb
 replace cp := F.c5 2 rfl
 replace cz := F.c9 1 rfl
 replace cy := F.c9 0 rfl
 clear hb
 rw [HV.out]
 clear cp
 have F2 := F.set9 1 rfl (.slice none 0 0) (.slice none 0 0) (.slice none 0 0) (.slice none 0 0) (.slice none 0 0) (.slice none 0 0) (.slice none 0 0) (.slice none 0 0) (.int .i64 0)
 go_wp2
 exact bodyPost_ret (v := .tuple #[.agg #[.slice none 0 0, .slice none 0 0, .slice none 0 0, .slice none 0 0, .slice none 0 0, .slice none 0 0, .slice none 0 0, .slice none 0 0, .int .i64 0], .bool false]) (by simp [results, Try.results21, go_sem, F2.c9 1 rfl]) rfl ⟨rfl, F2.bel⟩
end Go.Proofs.Ytfpgijihiifogaa
