/- Part of a proof: MChnS. -/
import Derived.Test.YtfpgijihiifogaaQMGrpS
set_option maxRecDepth 100000
set_option maxHeartbeats 16000000
namespace Go.Proofs.Ytfpgijihiifogaa
open Go.RowKit
theorem info_let : (Try.prog.info? 155).map (fun i => (i.zero, i.size, i.bytes)) = some (some (.agg #[.int .i64 0, .int .i64 0]), 2, 16) := by kernel_rfl
theorem specChanCopy_any (x : ChnD) (ai al ag : Option Addr) (ni ci nl cl ng cg : Nat) (w : World) (h1 : x.items.length = ni) (h2 : x.senders.length = nl) (h3 : x.getters.length = ng) (n1 : ni ≤ 1048576) (n2 : nl ≤ 1048576) (n3 : ng ≤ 1048576) (r1 : Rd w ai (ints x.items)) (r2 : Rd w al (pairs x.senders)) (r3 : Rd w ag (ints x.getters)) :
  Calls Try.prog 59 #[.agg #[.int .i64 x.room, .slice ai ni ci, .slice al nl cl, .slice ag ng cg, .bool x.closed]] w fun e w' => ∃ (bi bs bg : Option Addr) (di ds dg : Nat), e = .returned (.agg #[.int .i64 x.room, .slice bi ni di, .slice bs nl ds, .slice bg ng dg, .bool x.closed]) ∧ w'.ownsRow w.heap.size 3 1 (.slice bi ni di) ni (ints x.items) ∧ w'.ownsRow w.heap.size 155 2 (.slice bs nl ds) nl (pairs x.senders) ∧ w'.ownsRow w.heap.size 3 1 (.slice bg ng dg) ng (ints x.getters) ∧ Below w.heap.size w w' := by
 have L1 := xH1 h1
 have L2 := xH1 h2
 have L3 := xH1 h3
 clear h1 h2 h3
 obtain ⟨W0, hW0⟩ : ∃ W0 : World, W0 = ((w.alloc (.cells #[.int .i64 x.room, .slice ai ni ci, .slice al nl cl, .slice ag ng cg, .bool x.closed] 92)).alloc (.cells #[.int .i64 0, .slice none 0 0, .slice none 0 0, .slice none 0 0, .bool false] 92)) := ⟨_, rfl⟩
 have B0 : Below w.heap.size w W0 := by
  rw [hW0]
  exact ((xB1.alloc (by simp) _).alloc (by simp) _)
 have k0 : Blk W0 (w.heap.size) #[.int .i64 x.room, .slice ai ni ci, .slice al nl cl, .slice ag ng cg, .bool x.closed] 92 := by
  rw [hW0]
  have h := Blk.new w #[.int .i64 x.room, .slice ai ni ci, .slice al nl cl, .slice ag ng cg, .bool x.closed] 92
  exact h |>.alloc _
 have kR : Blk W0 (w.heap.size + 1) #[.int .i64 0, .slice none 0 0, .slice none 0 0, .slice none 0 0, .bool false] 92 := by
  rw [hW0]
  have h := Blk.new (w.alloc (.cells #[.int .i64 x.room, .slice ai ni ci, .slice al nl cl, .slice ag ng cg, .bool x.closed] 92)) #[.int .i64 0, .slice none 0 0, .slice none 0 0, .slice none 0 0, .bool false] 92
  simp only [World.size_alloc] at h
  exact h
 have hS0 : W0.heap.size = w.heap.size + 2 := by rw [hW0]; simp
 have q0 := k0.cell 0 rfl
 have q1 := k0.cell 1 rfl
 have q2 := k0.cell 2 rfl
 have q3 := k0.cell 3 rfl
 have q4 := k0.cell 4 rfl
 have HB0 := xH1 B0
 have Hr1 := xH1 (r1.below B0)
 have Hr2 := xH1 (r2.below B0)
 have Hr3 := xH1 (r3.below B0)
 have HKR := xH1 kR
 clear B0 k0 kR r1 r2 r3
 go_enter Try.func59, Try.ntmps59
 go_wp2
 rw [← hW0] at *
 clear hW0
 refine wp_region_fresh 17 (by kernel_rfl) (by kernel_rfl) [fun dz uz wz => uz = .pointer (some ⟨w.heap.size, 0, none⟩), fun dz uz wz => uz = .int .i64 x.room, fun dz uz wz => ∃ gz : Nat, uz = .slice (some ⟨gz, 0, none⟩) 0 0 ∧ wz.ownsRow W0.heap.size 3 1 (.slice (some ⟨gz, 0, none⟩) 0 0) 0 [], fun dz uz wz => uz = .pointer (some ⟨w.heap.size, 1, none⟩), fun dz uz wz => uz = .slice ai ni ci, fun dz uz wz => ∃ (az : Option Addr) (cz : Nat), uz = .slice az ni cz ∧ wz.ownsRow W0.heap.size 3 1 (.slice az ni cz) ni (ints x.items) ∧ (ni = 0 → cz = 0), fun dz uz wz => ∃ gz : Nat, uz = .slice (some ⟨gz, 0, none⟩) 0 0 ∧ wz.ownsRow W0.heap.size 155 2 (.slice (some ⟨gz, 0, none⟩) 0 0) 0 [], fun dz uz wz => uz = .pointer (some ⟨w.heap.size, 2, none⟩), fun dz uz wz => uz = .slice al nl cl, fun dz uz wz => ∃ (az : Option Addr) (cz : Nat), uz = .slice az nl cz ∧ wz.ownsRow W0.heap.size 155 2 (.slice az nl cz) nl (pairs x.senders) ∧ (nl = 0 → cz = 0), fun dz uz wz => ∃ gz : Nat, uz = .slice (some ⟨gz, 0, none⟩) 0 0 ∧ wz.ownsRow W0.heap.size 3 1 (.slice (some ⟨gz, 0, none⟩) 0 0) 0 [], fun dz uz wz => uz = .pointer (some ⟨w.heap.size, 3, none⟩), fun dz uz wz => uz = .slice ag ng cg, fun dz uz wz => ∃ (az : Option Addr) (cz : Nat), uz = .slice az ng cz ∧ wz.ownsRow W0.heap.size 3 1 (.slice az ng cz) ng (ints x.getters) ∧ (ng = 0 → cz = 0), fun dz uz wz => uz = .pointer (some ⟨w.heap.size, 4, none⟩), fun dz uz wz => uz = .bool x.closed, fun dz uz wz => uz = (.agg #[(dz.getD 0 undef), (dz.getD 1 undef), (dz.getD 2 undef), (dz.getD 3 undef), (dz.getD 4 undef)] : Value)] (fun i => match i with | _ => fun _ => none) (fun w' => Below W0.heap.size W0 w') xB1.drew (stab_of ⟨fun _ _ _ _ _ h => h, fun _ _ _ _ _ h => h, fun _ _ _ _ hb ⟨g, e, h⟩ => ⟨g, e, owns_below h hb⟩, fun _ _ _ _ _ h => h, fun _ _ _ _ _ h => h, fun _ _ _ _ hb ⟨a, c, e, h, h0⟩ => ⟨a, c, e, owns_below h hb, h0⟩, fun _ _ _ _ hb ⟨g, e, h⟩ => ⟨g, e, owns_below h hb⟩, fun _ _ _ _ _ h => h, fun _ _ _ _ _ h => h, fun _ _ _ _ hb ⟨a, c, e, h, h0⟩ => ⟨a, c, e, owns_below h hb, h0⟩, fun _ _ _ _ hb ⟨g, e, h⟩ => ⟨g, e, owns_below h hb⟩, fun _ _ _ _ _ h => h, fun _ _ _ _ _ h => h, fun _ _ _ _ hb ⟨a, c, e, h, h0⟩ => ⟨a, c, e, owns_below h hb, h0⟩, fun _ _ _ _ _ h => h, fun _ _ _ _ _ h => h, fun _ _ _ _ _ h => h, trivial⟩) ?_ ?_
 ·simp only [List.take_succ_cons, List.take_zero]
  refine ⟨?_, ?_, ?_, ?_, ?_, ?_, ?_, ?_, ?_, ?_, ?_, ?_, ?_, ?_, ?_, ?_, ?_, trivial⟩
  ·intro ρ w1 hG hfr hd
   obtain ⟨fc, ff⟩ := xF1 hfr
   have f1 : ρ (.tmp 1) = .pointer (some ⟨w.heap.size, 0, none⟩) := hfr _ rfl
   refine gives_val (u := .pointer (some ⟨w.heap.size, 0, none⟩)) (w' := w1) (by go_simp) ⟨Below.refl _ _, rfl, xN1, hG⟩
  ·intro ρ w1 hG hfr hd
   obtain ⟨fc, ff⟩ := xF1 hfr
   obtain ⟨d0, -⟩ := hd
   have d0 : (ρ (.tmp 3)) = .pointer (some ⟨w.heap.size, 0, none⟩) := d0
   have q0 := keepc hG q0
   refine gives_val (u := .int .i64 x.room) (w' := w1) (by go_simp) ⟨Below.refl _ _, rfl, xN1, hG⟩
  ·intro ρ w1 hG hfr hd
   obtain ⟨fc, ff⟩ := xF1 hfr
   refine gives_val (u := .slice (some ⟨w1.heap.size, 0, none⟩) 0 0) (w' := w1.alloc (.cells #[] 3)) (by go_simp) ⟨xA1, ⟨_, rfl, owns_mono (owns_empty w1 3 1) hG.size⟩, xN1, hG.alloc hG.size _⟩
  ·intro ρ w1 hG hfr hd
   obtain ⟨fc, ff⟩ := xF1 hfr
   have f1 : ρ (.tmp 1) = .pointer (some ⟨w.heap.size, 0, none⟩) := hfr _ rfl
   refine gives_val (u := .pointer (some ⟨w.heap.size, 1, none⟩)) (w' := w1) (by go_simp) ⟨Below.refl _ _, rfl, xN1, hG⟩
  ·intro ρ w1 hG hfr hd
   obtain ⟨fc, ff⟩ := xF1 hfr
   obtain ⟨d0, -⟩ := hd
   have d0 : (ρ (.tmp 6)) = .pointer (some ⟨w.heap.size, 1, none⟩) := d0
   have q1 := keepc hG q1
   refine gives_val (u := .slice ai ni ci) (w' := w1) (by go_simp) ⟨Below.refl _ _, rfl, xN1, hG⟩
  ·intro ρ w1 hG hfr hd
   obtain ⟨fc, ff⟩ := xF1 hfr
   obtain ⟨d0, d1, -⟩ := hd
   have d0 : ∃ gz : Nat, (ρ (.tmp 5)) = .slice (some ⟨gz, 0, none⟩) 0 0 ∧ w1.ownsRow W0.heap.size 3 1 (.slice (some ⟨gz, 0, none⟩) 0 0) 0 [] := d0
   have d1 : (ρ (.tmp 7)) = .slice ai ni ci := d1
   obtain ⟨g, d0, hg⟩ := d0
   refine gives_append_new _ _ 23 rfl Try.underlying23 info_int rfl (by decide) d0 hg d1 (by rw [List.length_map, L1.out, Nat.mul_one]) (Hr1.out.below hG) (ints_one _) (by omega) (by decide) hG.size ?_
   intro a c w2 hown hb hf h0
   exact ⟨hb, ⟨a, c, rfl, hown, h0⟩, xN1, hG.trans (hb.mono hG.size)⟩
  ·intro ρ w1 hG hfr hd
   obtain ⟨fc, ff⟩ := xF1 hfr
   refine gives_val (u := .slice (some ⟨w1.heap.size, 0, none⟩) 0 0) (w' := w1.alloc (.cells #[] 155)) (by go_simp) ⟨xA1, ⟨_, rfl, owns_mono (owns_empty w1 155 2) hG.size⟩, xN1, hG.alloc hG.size _⟩
  ·intro ρ w1 hG hfr hd
   obtain ⟨fc, ff⟩ := xF1 hfr
   have f1 : ρ (.tmp 1) = .pointer (some ⟨w.heap.size, 0, none⟩) := hfr _ rfl
   refine gives_val (u := .pointer (some ⟨w.heap.size, 2, none⟩)) (w' := w1) (by go_simp) ⟨Below.refl _ _, rfl, xN1, hG⟩
  ·intro ρ w1 hG hfr hd
   obtain ⟨fc, ff⟩ := xF1 hfr
   obtain ⟨d0, -⟩ := hd
   have d0 : (ρ (.tmp 10)) = .pointer (some ⟨w.heap.size, 2, none⟩) := d0
   have q2 := keepc hG q2
   refine gives_val (u := .slice al nl cl) (w' := w1) (by go_simp) ⟨Below.refl _ _, rfl, xN1, hG⟩
  ·intro ρ w1 hG hfr hd
   obtain ⟨fc, ff⟩ := xF1 hfr
   obtain ⟨d0, d1, -⟩ := hd
   have d0 : ∃ gz : Nat, (ρ (.tmp 9)) = .slice (some ⟨gz, 0, none⟩) 0 0 ∧ w1.ownsRow W0.heap.size 155 2 (.slice (some ⟨gz, 0, none⟩) 0 0) 0 [] := d0
   have d1 : (ρ (.tmp 11)) = .slice al nl cl := d1
   obtain ⟨g, d0, hg⟩ := d0
   refine gives_append_new _ _ 90 rfl Try.underlying90 info_let rfl (by decide) d0 hg d1 (by rw [pairs_len, L2.out]) (Hr2.out.below hG) (pairs_one _) (by omega) (by decide) hG.size ?_
   intro a c w2 hown hb hf h0
   exact ⟨hb, ⟨a, c, rfl, hown, h0⟩, xN1, hG.trans (hb.mono hG.size)⟩
  ·intro ρ w1 hG hfr hd
   obtain ⟨fc, ff⟩ := xF1 hfr
   refine gives_val (u := .slice (some ⟨w1.heap.size, 0, none⟩) 0 0) (w' := w1.alloc (.cells #[] 3)) (by go_simp) ⟨xA1, ⟨_, rfl, owns_mono (owns_empty w1 3 1) hG.size⟩, xN1, hG.alloc hG.size _⟩
  ·intro ρ w1 hG hfr hd
   obtain ⟨fc, ff⟩ := xF1 hfr
   have f1 : ρ (.tmp 1) = .pointer (some ⟨w.heap.size, 0, none⟩) := hfr _ rfl
   refine gives_val (u := .pointer (some ⟨w.heap.size, 3, none⟩)) (w' := w1) (by go_simp) ⟨Below.refl _ _, rfl, xN1, hG⟩
  ·intro ρ w1 hG hfr hd
   obtain ⟨fc, ff⟩ := xF1 hfr
   obtain ⟨d0, -⟩ := hd
   have d0 : (ρ (.tmp 14)) = .pointer (some ⟨w.heap.size, 3, none⟩) := d0
   have q3 := keepc hG q3
   refine gives_val (u := .slice ag ng cg) (w' := w1) (by go_simp) ⟨Below.refl _ _, rfl, xN1, hG⟩
  ·intro ρ w1 hG hfr hd
   obtain ⟨fc, ff⟩ := xF1 hfr
   obtain ⟨d0, d1, -⟩ := hd
   have d0 : ∃ gz : Nat, (ρ (.tmp 13)) = .slice (some ⟨gz, 0, none⟩) 0 0 ∧ w1.ownsRow W0.heap.size 3 1 (.slice (some ⟨gz, 0, none⟩) 0 0) 0 [] := d0
   have d1 : (ρ (.tmp 15)) = .slice ag ng cg := d1
   obtain ⟨g, d0, hg⟩ := d0
   refine gives_append_new _ _ 23 rfl Try.underlying23 info_int rfl (by decide) d0 hg d1 (by rw [List.length_map, L3.out, Nat.mul_one]) (Hr3.out.below hG) (ints_one _) (by omega) (by decide) hG.size ?_
   intro a c w2 hown hb hf h0
   exact ⟨hb, ⟨a, c, rfl, hown, h0⟩, xN1, hG.trans (hb.mono hG.size)⟩
  ·intro ρ w1 hG hfr hd
   obtain ⟨fc, ff⟩ := xF1 hfr
   have f1 : ρ (.tmp 1) = .pointer (some ⟨w.heap.size, 0, none⟩) := hfr _ rfl
   refine gives_val (u := .pointer (some ⟨w.heap.size, 4, none⟩)) (w' := w1) (by go_simp) ⟨Below.refl _ _, rfl, xN1, hG⟩
  ·intro ρ w1 hG hfr hd
   obtain ⟨fc, ff⟩ := xF1 hfr
   obtain ⟨d0, -⟩ := hd
   have d0 : (ρ (.tmp 17)) = .pointer (some ⟨w.heap.size, 4, none⟩) := d0
   have q4 := keepc hG q4
   refine gives_val (u := .bool x.closed) (w' := w1) (by go_simp) ⟨Below.refl _ _, rfl, xN1, hG⟩
  ·intro ρ w1 hG hfr hd
   obtain ⟨fc, ff⟩ := xF1 hfr
   obtain ⟨d0, d1, d2, d3, d4, -⟩ := hd
   have d0 : (ρ (.tmp 4)) = .int .i64 x.room := d0
   have d1 : ∃ (az : Option Addr) (cz : Nat), (ρ (.tmp 8)) = .slice az ni cz ∧ w1.ownsRow W0.heap.size 3 1 (.slice az ni cz) ni (ints x.items) ∧ (ni = 0 → cz = 0) := d1
   have d2 : ∃ (az : Option Addr) (cz : Nat), (ρ (.tmp 12)) = .slice az nl cz ∧ w1.ownsRow W0.heap.size 155 2 (.slice az nl cz) nl (pairs x.senders) ∧ (nl = 0 → cz = 0) := d2
   have d3 : ∃ (az : Option Addr) (cz : Nat), (ρ (.tmp 16)) = .slice az ng cz ∧ w1.ownsRow W0.heap.size 3 1 (.slice az ng cz) ng (ints x.getters) ∧ (ng = 0 → cz = 0) := d3
   have d4 : (ρ (.tmp 18)) = .bool x.closed := d4
   obtain ⟨az0, cz0, d1, -, -⟩ := d1
   obtain ⟨az1, cz1, d2, -, -⟩ := d2
   obtain ⟨az2, cz2, d3, -, -⟩ := d3
   refine gives_val (u := .agg #[.int .i64 x.room, .slice az0 ni cz0, .slice az1 nl cz1, .slice az2 ng cz2, .bool x.closed]) (w' := w1) (by go_simp) ⟨Below.refl _ _, ?_, xN1, hG⟩
   show Value.agg #[.int .i64 x.room, .slice az0 ni cz0, .slice az1 nl cz1, .slice az2 ng cz2, .bool x.closed] = (.agg #[(ρ (.tmp 4)), (ρ (.tmp 8)), (ρ (.tmp 12)), (ρ (.tmp 16)), (ρ (.tmp 18))] : Value)
   rw [d0, d1, d2, d3, d4]
 intro vs w2 hG hlen hall hap hbd
 obtain ⟨xv0, vs0, rfl, hl0⟩ := len_cons hlen
 obtain ⟨xv1, vs1, rfl, hl1⟩ := len_cons hl0
 obtain ⟨xv2, vs2, rfl, hl2⟩ := len_cons hl1
 obtain ⟨xv3, vs3, rfl, hl3⟩ := len_cons hl2
 obtain ⟨xv4, vs4, rfl, hl4⟩ := len_cons hl3
 obtain ⟨xv5, vs5, rfl, hl5⟩ := len_cons hl4
 obtain ⟨xv6, vs6, rfl, hl6⟩ := len_cons hl5
 obtain ⟨xv7, vs7, rfl, hl7⟩ := len_cons hl6
 obtain ⟨xv8, vs8, rfl, hl8⟩ := len_cons hl7
 obtain ⟨xv9, vs9, rfl, hl9⟩ := len_cons hl8
 obtain ⟨xv10, vs10, rfl, hl10⟩ := len_cons hl9
 obtain ⟨xv11, vs11, rfl, hl11⟩ := len_cons hl10
 obtain ⟨xv12, vs12, rfl, hl12⟩ := len_cons hl11
 obtain ⟨xv13, vs13, rfl, hl13⟩ := len_cons hl12
 obtain ⟨xv14, vs14, rfl, hl14⟩ := len_cons hl13
 obtain ⟨xv15, vs15, rfl, hl15⟩ := len_cons hl14
 obtain ⟨xv16, vs16, rfl, hl16⟩ := len_cons hl15
 obtain rfl := len_nil hl16
 clear hlen hl0 hl1 hl2 hl3 hl4 hl5 hl6 hl7 hl8 hl9 hl10 hl11 hl12 hl13 hl14 hl15 hl16
 simp only [List.take_succ_cons, List.take_zero, List.drop_succ_cons, List.drop_zero] at hall ⊢
 obtain ⟨t0', t1', t2', t3', t4', t5', t6', t7', t8', t9', t10', t11', t12', t13', t14', t15', t16', -⟩ := hall
 have hv0 : xv0 = .pointer (some ⟨w.heap.size, 0, none⟩) := t0'
 have hv1 : xv1 = .int .i64 x.room := t1'
 have hv2 : ∃ gz : Nat, xv2 = .slice (some ⟨gz, 0, none⟩) 0 0 ∧ w2.ownsRow W0.heap.size 3 1 (.slice (some ⟨gz, 0, none⟩) 0 0) 0 [] := t2'
 have hv3 : xv3 = .pointer (some ⟨w.heap.size, 1, none⟩) := t3'
 have hv4 : xv4 = .slice ai ni ci := t4'
 have hv5 : ∃ (az : Option Addr) (cz : Nat), xv5 = .slice az ni cz ∧ w2.ownsRow W0.heap.size 3 1 (.slice az ni cz) ni (ints x.items) ∧ (ni = 0 → cz = 0) := t5'
 have hv6 : ∃ gz : Nat, xv6 = .slice (some ⟨gz, 0, none⟩) 0 0 ∧ w2.ownsRow W0.heap.size 155 2 (.slice (some ⟨gz, 0, none⟩) 0 0) 0 [] := t6'
 have hv7 : xv7 = .pointer (some ⟨w.heap.size, 2, none⟩) := t7'
 have hv8 : xv8 = .slice al nl cl := t8'
 have hv9 : ∃ (az : Option Addr) (cz : Nat), xv9 = .slice az nl cz ∧ w2.ownsRow W0.heap.size 155 2 (.slice az nl cz) nl (pairs x.senders) ∧ (nl = 0 → cz = 0) := t9'
 have hv10 : ∃ gz : Nat, xv10 = .slice (some ⟨gz, 0, none⟩) 0 0 ∧ w2.ownsRow W0.heap.size 3 1 (.slice (some ⟨gz, 0, none⟩) 0 0) 0 [] := t10'
 have hv11 : xv11 = .pointer (some ⟨w.heap.size, 3, none⟩) := t11'
 have hv12 : xv12 = .slice ag ng cg := t12'
 have hv13 : ∃ (az : Option Addr) (cz : Nat), xv13 = .slice az ng cz ∧ w2.ownsRow W0.heap.size 3 1 (.slice az ng cz) ng (ints x.getters) ∧ (ng = 0 → cz = 0) := t13'
 have hv14 : xv14 = .pointer (some ⟨w.heap.size, 4, none⟩) := t14'
 have hv15 : xv15 = .bool x.closed := t15'
 have hv16 : xv16 = (.agg #[xv1, xv5, xv9, xv13, xv15] : Value) := t16'
 clear t0' t1' t2' t3' t4' t5' t6' t7' t8' t9' t10' t11' t12' t13' t14' t15' t16'
 clear hap hbd
 subst hv0 hv1 hv3 hv4 hv7 hv8 hv11 hv12 hv14 hv15
 obtain ⟨az0, cz0, rfl, hown0, -⟩ := hv5
 obtain ⟨az1, cz1, rfl, hown1, -⟩ := hv9
 obtain ⟨az2, cz2, rfl, hown2, -⟩ := hv13
 simp only [putAll, Act.put, List.setIfInBounds_toArray, List.set_cons_succ, List.set_cons_zero]
 have kR2 := HKR.out.below hG
 have y0 := kR2.cell 0 rfl
 have y1 := kR2.cell 1 rfl
 have y2 := kR2.cell 2 rfl
 have y3 := kR2.cell 3 rfl
 have y4 := kR2.cell 4 rfl
 have x0 := kR2.fz 0
 have x1 := kR2.fz 1
 have x2 := kR2.fz 2
 have x3 := kR2.fz 3
 have x4 := kR2.fz 4
 clear kR2
 go_wp2
 have hT := ((((((Touch.refl [w.heap.size + 1] w2).set (v := .int .i64 x.room) (b := w.heap.size + 1) (j := 0) (by simp)).set (v := .slice az0 ni cz0) (b := w.heap.size + 1) (j := 1) (by simp)).set (v := .slice az1 nl cz1) (b := w.heap.size + 1) (j := 2) (by simp)).set (v := .slice az2 ng cz2) (b := w.heap.size + 1) (j := 3) (by simp)).set (v := .bool x.closed) (b := w.heap.size + 1) (j := 4) (by simp))
 have hBz := hT.below (B := w.heap.size) (by have := hG.size; omega) (fun k hk => by simp only [List.mem_singleton] at hk; omega)
 have hq0 := owns_touch hown0 hT (fun q hq hm => by have h1 := (owns_row hown0 q hq).1; simp only [List.mem_singleton] at hm; omega)
 have hq1 := owns_touch hown1 hT (fun q hq hm => by have h1 := (owns_row hown1 q hq).1; simp only [List.mem_singleton] at hm; omega)
 have hq2 := owns_touch hown2 hT (fun q hq hm => by have h1 := (owns_row hown2 q hq).1; simp only [List.mem_singleton] at hm; omega)
 refine bodyPost_ret (v := .agg #[.int .i64 x.room, .slice az0 ni cz0, .slice az1 nl cz1, .slice az2 ng cz2, .bool x.closed]) (by simp [results, Try.results59, go_sem, y0, y1, y2, y3, y4]) rfl ?_
 exact ⟨az0, az1, az2, cz0, cz1, cz2, rfl, owns_mono hq0 (by omega), owns_mono hq1 (by omega), owns_mono hq2 (by omega), (HB0.out.trans (hG.mono HB0.out.size)).trans hBz⟩
theorem specThreads5_any (l : List (Int × Int)) (a : Option Addr) (n c : Nat) (w : World) (hl : l.length = n) (hn : n ≤ 6) (hr : Rd w a (pairs l)) :
  Calls Try.prog 81 #[.slice a n c] w fun e w' => ∃ (a' : Option Addr) (c' : Nat), e = .returned (.slice a' n c') ∧ w'.ownsRow w.heap.size 3 1 (.slice a' n c') n (ints (l.map (·.1))) ∧ Below w.heap.size w w' := by
 have HL := xH1 hl
 clear hl
 go_enter Try.func81, Try.ntmps81
 go_wp2
 go_loopw [3, 4] (fun vo vi wr => ∃ (i : Nat) (ao : Option Addr) (co : Nat), i ≤ n ∧ vi = .int .i64 i ∧ vo = .slice ao i co ∧ Hid (wr.ownsRow w.heap.size 3 1 (.slice ao i co) i (ints ((l.take i).map (·.1)))) ∧ Below w.heap.size w wr) (fun _ vi _ => n - (intOf vi).toNat)
 case atStart => exact ⟨0, _, _, by omega, rfl, rfl, xH1 (owns_empty _ _ _), xA1⟩
 case round =>
  obtain ⟨i, ao, co, hi, rfl, rfl, hown, hb⟩ := hrel
  by_cases hlt : i < n
  ·obtain ⟨b, o, rfl, g'⟩ := (hr.below hb).pair (by have := HL.out; omega)
   obtain ⟨g, -⟩ := g' i (by have := HL.out; omega)
   obtain ⟨t, et⟩ : ∃ t, t = (l.getD i (0, 0)).1 := ⟨_, rfl⟩
   rw [← et] at g
   have HE : Hid ((l.take (i + 1)).map (·.1) = (l.take i).map (·.1) ++ [t]) := xH1 (by
    rw [List.take_add_one, List.getElem?_eq_getElem (by have := HL.out; omega), et, List.getD_eq_getElem?_getD, List.getElem?_eq_getElem (by have := HL.out; omega)]
    simp only [List.map_append, Option.toList_some, List.map_cons, List.map_nil, Option.getD_some])
   have i1 : (i : Int) < (n : Int) := by omega
   have i3 : decide ((i : Int) ≤ 6) = true := decide_eq_true (by omega)
   have hS := hb.size
   clear g' et
   go_wp2_with (at_builtin; refine wpList_append_sl (m := 1) (cm := 1) (news := [.int .i64 t]) rfl _ _ 23 rfl Try.underlying23 info_int rfl (by decide) rfl hown.out rfl rfl rfl (by simp [Value.oneCell']) (by omega) (by decide) hS ?_; intro a3 c3 w3 ho3 hg3; have HO3 := xH1 ho3; clear ho3)
   go_roundw
   case rel => exact ⟨i + 1, a3, c3, by omega, by go_num, rfl, xH1 (by rw [HE.out]; simpa [ints] using HO3.out), hb.trans (below_of_grown hg3 hS (fun q hq => (owns_row hown.out q hq).1))⟩
   case measure => simp [intOf]; omega
  ·have hkm : i = n := by omega
   subst hkm
   have HE : Hid (l.take i = l) := xH1 (by rw [← HL.out, List.take_length])
   go_wp2
   go_ret
   exact ⟨ao, co, rfl, by rw [← HE.out]; exact hown.out, hb⟩
end Go.Proofs.Ytfpgijihiifogaa
