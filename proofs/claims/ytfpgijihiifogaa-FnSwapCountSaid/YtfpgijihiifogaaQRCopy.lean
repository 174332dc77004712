/- Part of a proof: RCopy. -/
import Derived.Test.YtfpgijihiifogaaQMChnS
import Derived.Test.YtfpgijihiifogaaQRk
import Derived.Test.YtfpgijihiifogaaQSb
import Derived.Test.YtfpgijihiifogaaQElem
set_option maxRecDepth 100000
set_option maxHeartbeats 16000000
namespace Go.Proofs.Ytfpgijihiifogaa
open Go.RowKit
theorem specState_copy (v : StV) (L : StL) (s : StD) (w : World) (hr : StR w v L s) (hz : SmS s) :
  Calls Try.prog 38 #[.agg #[.slice v.pl.a v.pl.n v.pl.c, .slice v.st.a v.st.n v.st.c, .slice v.se.a v.se.n v.se.c, .slice v.on.a v.on.n v.on.c, .slice v.gr.a v.gr.n v.gr.c, .slice v.ba.a v.ba.n v.ba.c, .slice v.ch.a v.ch.n v.ch.c, .slice v.sa.a v.sa.n v.sa.c, .int .i64 v.fl]] w fun e w' => ∃ (v' : StV) (L' : StL), e = .returned v'.val ∧ StO [] w.heap.size w' v' L' s ∧ NewB w.heap.size L' ∧ Below w.heap.size w w' := by
 have npl : v.pl.n ≤ 1048576 := by rw [hr.pl.len]; exact hz.pl.2
 have Lpl := xH1 hr.pl.len
 have nst : v.st.n ≤ 1048576 := by rw [hr.st.len]; exact hz.st.2
 have Lst := xH1 hr.st.len
 have nse : v.se.n ≤ 1048576 := by rw [hr.se.len]; exact hz.se
 have Lse := xH1 hr.se.len
 have non : v.on.n ≤ 1048576 := by rw [hr.on.len]; exact hz.on
 have Lon := xH1 hr.on.len
 have ngr : v.gr.n ≤ 1048576 := by rw [hr.gr.len]; exact hz.gr
 have Lgr := xH1 hr.gr.len
 have nba : v.ba.n ≤ 1048576 := by rw [hr.ba.len]; exact hz.ba
 have Lba := xH1 hr.ba.len
 have nch : v.ch.n ≤ 1048576 := by rw [hr.ch.len]; exact hz.ch
 have Lch := xH1 hr.ch.len
 have nsa : v.sa.n ≤ 1048576 := by rw [hr.sa.len]; exact hz.sa
 have Lsa := xH1 hr.sa.len
 have HZ := xH1 hz
 have p0 : 0 < v.pl.n := by rw [hr.pl.len]; exact hz.pl.1
 have p1 : 0 < v.st.n := by rw [hr.st.len]; exact hz.st.1
 have HS := xH1 hr
 have F := ((Fr.start w).alloc (svC v) 44).alloc zC 44
 simp only [World.size_alloc] at F
 clear hz hr
 go_enter Try.func38, Try.ntmps38
 go_wp2_with fail
 obtain ⟨u1, hu, F0⟩ := F.named
 rw [← hu]
 clear hu F
 have F := F0
 clear F0
 refine wp_region_fresh 16 (by kernel_rfl) (by kernel_rfl) [fun dz uz wz => ∃ gz : Nat, uz = .slice (some ⟨gz, 0, none⟩) 0 0 ∧ wz.ownsRow u1.heap.size 3 1 (.slice (some ⟨gz, 0, none⟩) 0 0) 0 [], isV (.pointer (some ⟨w.heap.size, 0, none⟩)), isV (.slice v.pl.a v.pl.n v.pl.c), fun dz uz wz => ∃ (az : Option Addr) (cz : Nat), uz = .slice az v.pl.n cz ∧ wz.ownsRow u1.heap.size 3 1 (.slice az v.pl.n cz) v.pl.n (ints s.places) ∧ (v.pl.n = 0 → cz = 0), fun dz uz wz => ∃ gz : Nat, uz = .slice (some ⟨gz, 0, none⟩) 0 0 ∧ wz.ownsRow u1.heap.size 3 1 (.slice (some ⟨gz, 0, none⟩) 0 0) 0 [], isV (.pointer (some ⟨w.heap.size, 1, none⟩)), isV (.slice v.st.a v.st.n v.st.c), fun dz uz wz => ∃ (az : Option Addr) (cz : Nat), uz = .slice az v.st.n cz ∧ wz.ownsRow u1.heap.size 3 1 (.slice az v.st.n cz) v.st.n (ints s.status) ∧ (v.st.n = 0 → cz = 0), fun dz uz wz => ∃ gz : Nat, uz = .slice (some ⟨gz, 0, none⟩) 0 0 ∧ wz.ownsRow u1.heap.size 3 1 (.slice (some ⟨gz, 0, none⟩) 0 0) 0 [], isV (.pointer (some ⟨w.heap.size, 7, none⟩)), isV (.slice v.sa.a v.sa.n v.sa.c), fun dz uz wz => ∃ (az : Option Addr) (cz : Nat), uz = .slice az v.sa.n cz ∧ wz.ownsRow u1.heap.size 3 1 (.slice az v.sa.n cz) v.sa.n (ints s.said) ∧ (v.sa.n = 0 → cz = 0), isV (.pointer (some ⟨w.heap.size, 8, none⟩)), isV (.int .i64 v.fl), fun dz uz wz => uz = (.agg #[(dz.getD 0 undef), (dz.getD 1 undef), .slice none 0 0, .slice none 0 0, .slice none 0 0, .slice none 0 0, .slice none 0 0, (dz.getD 2 undef), (dz.getD 3 undef)] : Value), fun dz uz wz => ∃ gz : Nat, uz = .pointer (some ⟨gz, 0, none⟩) ∧ Blk wz gz zC 44 ∧ u1.heap.size ≤ gz] (fun i => match i with | 3 => slBk v.pl.n | 7 => slBk v.st.n | 11 => slBk v.sa.n | 15 => ptBk | _ => fun _ => none) (fun w' => Below u1.heap.size u1 w') xB1.drew (stab_of ⟨stE, pS, pS, fun _ _ _ _ hb ⟨a, c, e, h, h0⟩ => ⟨a, c, e, owns_below h hb, h0⟩, stE, pS, pS, fun _ _ _ _ hb ⟨a, c, e, h, h0⟩ => ⟨a, c, e, owns_below h hb, h0⟩, stE, pS, pS, fun _ _ _ _ hb ⟨a, c, e, h, h0⟩ => ⟨a, c, e, owns_below h hb, h0⟩, pS, pS, fun _ _ _ _ _ h => h, stZ, trivial⟩) ?_ ?_
 ·simp only [List.take_succ_cons, List.take_zero]
  refine ⟨?_, ?_, ?_, ?_, ?_, ?_, ?_, ?_, ?_, ?_, ?_, ?_, ?_, ?_, ?_, ?_, trivial⟩
  all_goals (intro ρ w1 hG hfr hd; obtain ⟨fc, ff⟩ := fcff hfr; have f1 : ρ (.tmp 1) = .pointer (some ⟨w.heap.size, 0, none⟩) := hfr _ rfl; have F1 := F.call hG; have cs := F1.c9 1 rfl; clear F1)
  ·refine gives_val (u := .slice (some ⟨w1.heap.size, 0, none⟩) 0 0) (w' := w1.alloc (.cells #[] 3)) (by go_simp) ⟨xA1, ⟨_, rfl, owns_mono (owns_empty w1 3 1) hG.size⟩, xN1, hG.alloc hG.size _⟩
  ·exact gvF hG (by go_simp) rfl xN1
  ·obtain ⟨d0, -⟩ := hd
   have d0 : ρ (.tmp 11) = _ := d0
   exact gvF hG (by go_simp) rfl xN1
  ·obtain ⟨d0, d1, -⟩ := hd
   have d0 : ∃ gz : Nat, (ρ (.tmp 10)) = .slice (some ⟨gz, 0, none⟩) 0 0 ∧ w1.ownsRow u1.heap.size 3 1 (.slice (some ⟨gz, 0, none⟩) 0 0) 0 [] := d0
   have d1 : ρ (.tmp 12) = _ := d1
   obtain ⟨g, d0, hg⟩ := d0
   refine gives_append_new _ _ 23 rfl Try.underlying23 info_int rfl (by decide) d0 hg d1 (by rw [List.length_map, Lpl.out, Nat.mul_one]) ((F.rd HS.out.pl.rd).below hG) (ints_one s.places) (by omega) (by decide) hG.size ?_
   intro a c w2 hown hb hf h0
   exact ⟨hb, ⟨a, c, rfl, hown, h0⟩, slBk_new hown hf, hG.trans (hb.mono hG.size)⟩
  ·refine gives_val (u := .slice (some ⟨w1.heap.size, 0, none⟩) 0 0) (w' := w1.alloc (.cells #[] 3)) (by go_simp) ⟨xA1, ⟨_, rfl, owns_mono (owns_empty w1 3 1) hG.size⟩, xN1, hG.alloc hG.size _⟩
  ·exact gvF hG (by go_simp) rfl xN1
  ·obtain ⟨d0, -⟩ := hd
   have d0 : ρ (.tmp 15) = _ := d0
   exact gvF hG (by go_simp) rfl xN1
  ·obtain ⟨d0, d1, d2, -⟩ := hd
   have d0 : ∃ gz : Nat, (ρ (.tmp 14)) = .slice (some ⟨gz, 0, none⟩) 0 0 ∧ w1.ownsRow u1.heap.size 3 1 (.slice (some ⟨gz, 0, none⟩) 0 0) 0 [] := d0
   have d1 : ρ (.tmp 16) = _ := d1
   have d2 : ∃ (az : Option Addr) (cz : Nat), (ρ (.tmp 13)) = .slice az v.pl.n cz ∧ w1.ownsRow u1.heap.size 3 1 (.slice az v.pl.n cz) v.pl.n (ints s.places) ∧ (v.pl.n = 0 → cz = 0) := d2
   obtain ⟨g, d0, hg⟩ := d0
   refine gives_append_new _ _ 23 rfl Try.underlying23 info_int rfl (by decide) d0 hg d1 (by rw [List.length_map, Lst.out, Nat.mul_one]) ((F.rd HS.out.st.rd).below hG) (ints_one s.status) (by omega) (by decide) hG.size ?_
   intro a c w2 hown hb hf h0
   exact ⟨hb, ⟨a, c, rfl, hown, h0⟩, slBk_new hown hf, hG.trans (hb.mono hG.size)⟩
  ·refine gives_val (u := .slice (some ⟨w1.heap.size, 0, none⟩) 0 0) (w' := w1.alloc (.cells #[] 3)) (by go_simp) ⟨xA1, ⟨_, rfl, owns_mono (owns_empty w1 3 1) hG.size⟩, xN1, hG.alloc hG.size _⟩
  ·exact gvF hG (by go_simp) rfl xN1
  ·obtain ⟨d0, -⟩ := hd
   have d0 : ρ (.tmp 19) = _ := d0
   exact gvF hG (by go_simp) rfl xN1
  ·obtain ⟨d0, d1, d2, -⟩ := hd
   have d0 : ∃ gz : Nat, (ρ (.tmp 18)) = .slice (some ⟨gz, 0, none⟩) 0 0 ∧ w1.ownsRow u1.heap.size 3 1 (.slice (some ⟨gz, 0, none⟩) 0 0) 0 [] := d0
   have d1 : ρ (.tmp 20) = _ := d1
   have d2 : ∃ (az : Option Addr) (cz : Nat), (ρ (.tmp 17)) = .slice az v.st.n cz ∧ w1.ownsRow u1.heap.size 3 1 (.slice az v.st.n cz) v.st.n (ints s.status) ∧ (v.st.n = 0 → cz = 0) := d2
   obtain ⟨g, d0, hg⟩ := d0
   refine gives_append_new _ _ 23 rfl Try.underlying23 info_int rfl (by decide) d0 hg d1 (by rw [List.length_map, Lsa.out, Nat.mul_one]) ((F.rd HS.out.sa.rd).below hG) (ints_one s.said) (by omega) (by decide) hG.size ?_
   intro a c w2 hown hb hf h0
   exact ⟨hb, ⟨a, c, rfl, hown, h0⟩, slBk_new hown hf, hG.trans (hb.mono hG.size)⟩
  ·exact gvF hG (by go_simp) rfl xN1
  ·obtain ⟨d0, -⟩ := hd
   have d0 : ρ (.tmp 22) = _ := d0
   exact gvF hG (by go_simp) rfl xN1
  ·obtain ⟨d0, d1, d2, d3, -⟩ := hd
   have d0 : ∃ (az : Option Addr) (cz : Nat), (ρ (.tmp 13)) = .slice az v.pl.n cz ∧ w1.ownsRow u1.heap.size 3 1 (.slice az v.pl.n cz) v.pl.n (ints s.places) ∧ (v.pl.n = 0 → cz = 0) := d0
   have d1 : ∃ (az : Option Addr) (cz : Nat), (ρ (.tmp 17)) = .slice az v.st.n cz ∧ w1.ownsRow u1.heap.size 3 1 (.slice az v.st.n cz) v.st.n (ints s.status) ∧ (v.st.n = 0 → cz = 0) := d1
   have d2 : ∃ (az : Option Addr) (cz : Nat), (ρ (.tmp 21)) = .slice az v.sa.n cz ∧ w1.ownsRow u1.heap.size 3 1 (.slice az v.sa.n cz) v.sa.n (ints s.said) ∧ (v.sa.n = 0 → cz = 0) := d2
   have d3 : ρ (.tmp 23) = _ := d3
   obtain ⟨az0, cz0, d0, -, -⟩ := d0
   obtain ⟨az1, cz1, d1, -, -⟩ := d1
   obtain ⟨az2, cz2, d2, -, -⟩ := d2
   refine gives_val (u := .agg #[.slice az0 v.pl.n cz0, .slice az1 v.st.n cz1, .slice none 0 0, .slice none 0 0, .slice none 0 0, .slice none 0 0, .slice none 0 0, .slice az2 v.sa.n cz2, .int .i64 v.fl]) (w' := w1) (by go_simp) ⟨Below.refl _ _, ?_, xN1, hG⟩
   show Value.agg #[.slice az0 v.pl.n cz0, .slice az1 v.st.n cz1, .slice none 0 0, .slice none 0 0, .slice none 0 0, .slice none 0 0, .slice none 0 0, .slice az2 v.sa.n cz2, .int .i64 v.fl] = (.agg #[(ρ (.tmp 13)), (ρ (.tmp 17)), .slice none 0 0, .slice none 0 0, .slice none 0 0, .slice none 0 0, .slice none 0 0, (ρ (.tmp 21)), (ρ (.tmp 23))] : Value)
   rw [d0, d1, d2, d3]
  ·refine gives_val (u := .pointer (some ⟨w1.heap.size, 0, none⟩)) (w' := w1.alloc (.cells zC 44)) (by go_simp) ⟨xA1, ⟨_, rfl, Blk.new _ _ _, hG.size⟩, ptBk_new _ _, hG.alloc hG.size _⟩
 intro vs w2 hG hlen hall hap hbd
 obtain ⟨xv0, xv1, xv2, xv3, xv4, xv5, xv6, xv7, xv8, xv9, xv10, xv11, xv12, xv13, xv14, xv15, rfl⟩ := len16 hlen
 clear hlen
 simp only [List.take_succ_cons, List.take_zero, List.drop_succ_cons, List.drop_zero] at hall ⊢
 obtain ⟨hv0, hv1, hv2, hv3, hv4, hv5, hv6, hv7, hv8, hv9, hv10, hv11, hv12, hv13, hv14, hv15, -⟩ := hall
 replace hv0 : ∃ gz : Nat, xv0 = .slice (some ⟨gz, 0, none⟩) 0 0 ∧ w2.ownsRow u1.heap.size 3 1 (.slice (some ⟨gz, 0, none⟩) 0 0) 0 [] := hv0
 replace hv3 : ∃ (az : Option Addr) (cz : Nat), xv3 = .slice az v.pl.n cz ∧ w2.ownsRow u1.heap.size 3 1 (.slice az v.pl.n cz) v.pl.n (ints s.places) ∧ (v.pl.n = 0 → cz = 0) := hv3
 replace hv4 : ∃ gz : Nat, xv4 = .slice (some ⟨gz, 0, none⟩) 0 0 ∧ w2.ownsRow u1.heap.size 3 1 (.slice (some ⟨gz, 0, none⟩) 0 0) 0 [] := hv4
 replace hv7 : ∃ (az : Option Addr) (cz : Nat), xv7 = .slice az v.st.n cz ∧ w2.ownsRow u1.heap.size 3 1 (.slice az v.st.n cz) v.st.n (ints s.status) ∧ (v.st.n = 0 → cz = 0) := hv7
 replace hv8 : ∃ gz : Nat, xv8 = .slice (some ⟨gz, 0, none⟩) 0 0 ∧ w2.ownsRow u1.heap.size 3 1 (.slice (some ⟨gz, 0, none⟩) 0 0) 0 [] := hv8
 replace hv11 : ∃ (az : Option Addr) (cz : Nat), xv11 = .slice az v.sa.n cz ∧ w2.ownsRow u1.heap.size 3 1 (.slice az v.sa.n cz) v.sa.n (ints s.said) ∧ (v.sa.n = 0 → cz = 0) := hv11
 replace hv14 : xv14 = (.agg #[xv3, xv7, .slice none 0 0, .slice none 0 0, .slice none 0 0, .slice none 0 0, .slice none 0 0, xv11, xv13] : Value) := hv14
 replace hv15 : ∃ gz : Nat, xv15 = .pointer (some ⟨gz, 0, none⟩) ∧ Blk w2 gz zC 44 ∧ u1.heap.size ≤ gz := hv15
 obtain rfl : xv1 = _ := hv1
 obtain rfl : xv2 = _ := hv2
 obtain rfl : xv5 = _ := hv5
 obtain rfl : xv6 = _ := hv6
 obtain rfl : xv9 = _ := hv9
 obtain rfl : xv10 = _ := hv10
 obtain rfl : xv12 = _ := hv12
 obtain rfl : xv13 = _ := hv13
 have pv3_7 : ∀ k, (slBk v.pl.n) xv3 = some k → (slBk v.st.n) xv7 ≠ some k := hap 3 7 (by simp) (by simp) (by decide)
 have pv3_11 : ∀ k, (slBk v.pl.n) xv3 = some k → (slBk v.sa.n) xv11 ≠ some k := hap 3 11 (by simp) (by simp) (by decide)
 have pv7_11 : ∀ k, (slBk v.st.n) xv7 = some k → (slBk v.sa.n) xv11 ≠ some k := hap 7 11 (by simp) (by simp) (by decide)
 clear hap hbd
 simp only [putAll, Act.put, List.setIfInBounds_toArray, List.set_cons_succ, List.set_cons_zero]
 obtain ⟨a1, c1, rfl, o1, z1⟩ := hv3
 obtain ⟨a2, c2, rfl, o2, z2⟩ := hv7
 obtain ⟨a8, c8, rfl, o8, z8⟩ := hv11
 obtain ⟨G, rfl, kG, hG0⟩ := hv15
 have dps : ∀ k, rowOf a1 = some k → rowOf a2 ≠ some k := by
  intro k h1 h2
  exact pv3_7 k (by simp only [slBk, if_neg (show ¬ v.pl.n = 0 by omega), ownBlock_slice]; exact h1) (by simp only [slBk, if_neg (show ¬ v.st.n = 0 by omega), ownBlock_slice]; exact h2)
 have dXa : ∀ {a' : Option Addr} {n' c' : Nat} {xs : List Value}, 0 < n' → w2.ownsRow u1.heap.size 3 1 (.slice a' n' c') n' xs → (∀ k, slBk n' (.slice a' n' c') = some k → slBk v.sa.n (.slice a8 v.sa.n c8) ≠ some k) → ∀ k, rowOf a' = some k → rowOf a8 ≠ some k := by
  intro a' n' c' xs hn' ho' hp k h1 h2
  by_cases h0 : v.sa.n = 0
  ·obtain rfl := z8 h0
   exact apart_cap ho' o8 hn' k h1 h2
  ·exact hp k (by simp only [slBk, if_neg (show ¬ n' = 0 by omega), ownBlock_slice]; exact h1) (by simp only [slBk, if_neg h0, ownBlock_slice]; exact h2)
 have dpa := dXa p0 o1 pv3_11
 have dsa := dXa p1 o2 pv7_11
 have F2 := F.more hG (i := .blk G zC 44) ⟨hG0, kG⟩
 have hsz := F.bel.size
 have h0 : Sf w w2 [.blk G zC 44, .blk (w.heap.size + 1) zC 44, .blk w.heap.size (svC v) 44] ⟨⟨a1, v.pl.n, c1⟩, ⟨a2, v.st.n, c2⟩, nilV, nilV, nilV, nilV, nilV, ⟨a8, v.sa.n, c8⟩, v.fl⟩ ⟨[], [], [], [], []⟩ (part s 0 0 0 0 0) := by
  refine ⟨F2, ?_⟩
  refine ⟨owns_mono o1 hsz, Lpl.out, owns_mono o2 hsz, Lst.out, World.ownsRow_nil _ _ _ _, rfl, World.ownsRow_nil _ _ _ _, rfl, World.ownsRow_nil _ _ _ _, rfl, World.ownsRow_nil _ _ _ _, rfl, World.ownsRow_nil _ _ _ _, rfl, owns_mono o8 hsz, Lsa.out, HS.out.fl, dps, dpa, dsa, fun q hq => ⟨(F2.inside q hq).2, fun hm => ?_⟩, ⟨InL.nil, InL.nil, InL.nil, InL.nil, InL.nil⟩⟩
  have hB : ∃ cs, Blk w2 q cs 44 := by
   obtain ⟨i, hi, hqi⟩ := List.mem_flatMap.1 hq
   simp only [List.mem_cons, List.not_mem_nil, or_false] at hi
   rcases hi with rfl | rfl | rfl <;> obtain rfl := xS1 hqi
   ·exact ⟨_, F2.blk 0 rfl⟩
   ·exact ⟨_, F2.blk 1 rfl⟩
   ·exact ⟨_, F2.blk 2 rfl⟩
  obtain ⟨cs, hB⟩ := hB
  obtain ⟨z, hz, hzk⟩ := List.mem_filterMap.1 hm
  simp only [nilV, List.mem_cons, List.not_mem_nil, or_false] at hz
  rcases hz with rfl | rfl | rfl | rfl | rfl | rfl | rfl | rfl
  ·exact blk_owns hB o1 (by decide) hzk
  ·exact blk_owns hB o2 (by decide) hzk
  iterate 5 cases hzk
  ·exact blk_owns hB o8 (by decide) hzk
 have co := h0.c9 0 rfl
 have h1 := h0.set9 0 rfl (.slice a1 v.pl.n c1) (.slice a2 v.st.n c2) (.slice none 0 0) (.slice none 0 0) (.slice none 0 0) (.slice none 0 0) (.slice none 0 0) (.slice a8 v.sa.n c8) (.int .i64 v.fl)
 clear o1 o2 o8 dps dpa dsa dXa pv3_7 pv3_11 pv7_11 kG hG0 F2 F h0 hsz hG z1 z2 z8
 go_upto_region 2 with fail
 obtain ⟨wz, hw, h⟩ := h1.named
 rw [← hw]
 clear hw h1 co hv14
 have HN := NewB.nil w.heap.size
 have cs := h.c9 2 rfl
 go_wp2
 clear cs
 go_loopw [4] (fun i wr => ∃ (k : Nat) (V : StV) (M : StL), k ≤ v.se.n ∧ i = .int .i64 k ∧ Sf w wr (cl3 w G V v) V M (part s k 0 0 0 0) ∧ NewB w.heap.size M) (fun i _ => v.se.n - (intOf i).toNat)
 case atStart => exact ⟨0, ⟨⟨a1, v.pl.n, c1⟩, ⟨a2, v.st.n, c2⟩, nilV, nilV, nilV, nilV, nilV, ⟨a8, v.sa.n, c8⟩, v.fl⟩, _, by omega, rfl, h, HN⟩
 case round =>
  clear h HN
  obtain ⟨k, V, M, hk, rfl, h, HN⟩ := hrel
  have cs := h.c9 2 rfl
  by_cases hlt : k < v.se.n
  ·have hks : k < s.sems.length := by have := Lse.out; omega
   obtain ⟨x, q, b1, o1, HX, ea, g0, g1, g2, Q0, QL0, QC0⟩ := HS.out.at_se (j := k) hks
   replace g0 := keepc h.bel g0
   replace g1 := keepc h.bel g1
   replace g2 := keepc h.bel g2
   have HEA := xH1 ea
   clear ea
   have HVN : Hid (V.se.n = k) := xH1 (by rw [h.st.nse]; show (s.sems.take k).length = k; rw [List.length_take]; omega)
   have HP : Hid (s.sems.take (k + 1) = s.sems.take k ++ [x]) := xH1 (by rw [HX.out]; exact (take_snoc _ _ hks).symm)
   have i0 : (0 : Int) ≤ (k : Int) := by omega
   have i1 : (k : Int) < (v.se.n : Int) := by omega
   clear hks
   go_upto_region 5 with fail
   obtain ⟨u2, hu⟩ : ∃ u2 : World, u2 = wr := ⟨_, rfl⟩
   rw [← hu] at h g0 g1 g2 ⊢
   clear hu cs
   have h3 := h
   clear h
   apply wp_rk 9 [.k _, .k _, .k _, .k _, .k _, .k _, .k _, .r fun dz uz wz => ∃ (az : Option Addr) (cz : Nat), uz = .agg #[.int .i64 x.free, .int .i64 x.limit, .slice az q.n cz] ∧ wz.ownsRow u2.heap.size 132 2 (.slice az q.n cz) q.n (pairs x.queue), .r fun dz uz wz => ∃ (gz : Nat) (az : Option Addr) (cz : Nat), uz = .slice (some ⟨gz, 0, none⟩) 1 1 ∧ Blk wz gz #[.int .i64 x.free, .int .i64 x.limit, .slice az q.n cz] 79 ∧ wz.ownsRow u2.heap.size 132 2 (.slice az q.n cz) q.n (pairs x.queue)] ⟨fun _ _ _ _ hb ⟨a, c, e, h⟩ => ⟨a, c, e, owns_below h hb⟩, fun _ _ _ _ hb ⟨g, a, c, e, h, h1⟩ => ⟨g, a, c, e, h.below hb, owns_below h1 hb⟩, trivial⟩ ?s1 ?e1
   case s1 =>
    repeat' apply And.intro
    all_goals first | trivial | (intro ρ w1 hG hfr hd; obtain ⟨fc, ff⟩ := fcff hfr; have f3 := hfr (.tmp 3) rfl; have f1 := hfr (.tmp 1) rfl; have f4 := hfr (.tmp 4) rfl; have F1 := h3.fr.call hG; have co := F1.c9 0 rfl; have cs := F1.c9 2 rfl; have g0 := keepc hG g0; have g1 := keepc hG g1; have g2 := keepc hG g2)
    exact rk0; exact rk1; exact rk0; exact rk1; exact rk0
    ·have d : ρ (.tmp _) = _ := hd.1; have d' : ρ (.tmp _) = _ := hd.2.1; rw [HEA.out] at d; exact rk0
    exact rk1
    ·obtain ⟨d0, -⟩ := hd
     have d0 : ρ (.tmp 38) = _ := d0
     refine gives_call (by go_simp; exact ⟨⟨rfl, rfl⟩, rfl⟩) ?_
     refine (specSemCopy_any x q.a q.n q.c _ QL0.out.symm (by rw [QL0.out, HX.out]; exact HZ.out.qse k) ((h3.fr.call hG).rd Q0.out)).mono ?_
     rintro e w2 ⟨a1, c1, rfl, ho, hb⟩
     exact ⟨_, rfl, hb, ⟨a1, c1, rfl, owns_mono ho hG.size⟩, xN1, hG.trans (hb.mono hG.size)⟩
    ·obtain ⟨d0, -⟩ := hd
     have d0 : ∃ (az : Option Addr) (cz : Nat), (ρ (.tmp 39)) = .agg #[.int .i64 x.free, .int .i64 x.limit, .slice az q.n cz] ∧ w1.ownsRow u2.heap.size 132 2 (.slice az q.n cz) q.n (pairs x.queue) := d0
     obtain ⟨azz, czz, d0, ho⟩ := d0
     have hb : Below w1.heap.size w1 (w1.alloc (.cells #[.int .i64 x.free, .int .i64 x.limit, .slice azz q.n czz] 79)) := xA1
     refine gives_val (u := .slice (some ⟨w1.heap.size, 0, none⟩) 1 1) (w' := w1.alloc (.cells #[.int .i64 x.free, .int .i64 x.limit, .slice azz q.n czz] 79)) (by go_simp) ⟨hb, ⟨_, azz, czz, rfl, Blk.new _ _ _, owns_below ho hb⟩, xN1, hG.alloc hG.size _⟩
   intro w2 hG
   refine rk_end ?_
   intro xv7 hv7 xv8 hv8
   obtain ⟨gz, az, cz, rfl, kL, ho⟩ := hv8
   have hq : semR (foots (cl3 w G V v) ++ V.blks) w2 x ⟨az, q.n, cz⟩ := by
    have h9 := h3.apart (SlN.of_owns ho xL1)
    show SlR _ _ _ _ x.queue.length
    rw [← QL0.out]
    exact h9
   have HN2 := HN.se1 (x := x) (q := ⟨az, q.n, cz⟩) (newS.lower (SlN.of_owns ho xL1).new h3.bel.size)
   have h4 := h3.call hG
   have HQ := xH1 hq
   clear hq hG h3 hv7 g0 g1 g2
   go_wp2_with (at_builtin; refine h4.app_se rfl _ _ rfl rfl rfl (Rd.of_blk kL) HQ.out (by have := HVN.out; omega) ?_; intro r W5 h5; have co := h5.c9 0 rfl; have h6 := (h5.set 0 rfl 2 r.val).sub (l' := cl3 w G { V with se := r } v) (.refl _))
   go_roundw
   case rel => exact ⟨k + 1, _, _, by omega, by go_num, by
    have e : part s (k + 1) 0 0 0 0 = { part s k 0 0 0 0 with sems := s.sems.take k ++ [x] } := by unfold part; rw [HP.out]
    rw [e]
    exact h6, HN2⟩
   case measure => simp [intOf]; omega
  ·obtain rfl : k = v.se.n := by omega
   clear hlt hk
   go_wp2
   clear cs
   go_loopw [5] (fun i wr => ∃ (k : Nat) (V : StV) (M : StL), k ≤ v.on.n ∧ i = .int .i64 k ∧ Sf w wr (cl3 w G V v) V M (part s v.se.n k 0 0 0) ∧ NewB w.heap.size M) (fun i _ => v.on.n - (intOf i).toNat)
   case atStart => exact ⟨0, V, _, by omega, rfl, h, HN⟩
   case round =>
    clear h HN
    obtain ⟨k, V, M, hk, rfl, h, HN⟩ := hrel
    have cs := h.c9 2 rfl
    by_cases hlt : k < v.on.n
    ·have hks : k < s.onces.length := by have := Lon.out; omega
     obtain ⟨x, q, b1, o1, HX, ea, g0, g1, g2, g3, Q0, QL0, QC0⟩ := HS.out.at_on (j := k) hks
     replace g0 := keepc h.bel g0
     replace g1 := keepc h.bel g1
     replace g2 := keepc h.bel g2
     replace g3 := keepc h.bel g3
     have HEA := xH1 ea
     clear ea
     have HVN : Hid (V.on.n = k) := xH1 (by rw [h.st.non]; show (s.onces.take k).length = k; rw [List.length_take]; omega)
     have HP : Hid (s.onces.take (k + 1) = s.onces.take k ++ [x]) := xH1 (by rw [HX.out]; exact (take_snoc _ _ hks).symm)
     have i0 : (0 : Int) ≤ (k : Int) := by omega
     have i1 : (k : Int) < (v.on.n : Int) := by omega
     clear hks
     go_upto_region 9 with fail
     obtain ⟨u2, hu⟩ : ∃ u2 : World, u2 = wr := ⟨_, rfl⟩
     rw [← hu] at h g0 g1 g2 g3 ⊢
     clear hu cs
     have h3 := h
     clear h
     apply wp_rk 9 [.k _, .k _, .k _, .k _, .k _, .k _, .k _, .r fun dz uz wz => ∃ (az : Option Addr) (cz : Nat), uz = .agg #[.int .i64 x.state, .int .i64 x.owner, .int .i64 x.value, .slice az q.n cz] ∧ wz.ownsRow u2.heap.size 3 1 (.slice az q.n cz) q.n (ints x.waits), .r fun dz uz wz => ∃ (gz : Nat) (az : Option Addr) (cz : Nat), uz = .slice (some ⟨gz, 0, none⟩) 1 1 ∧ Blk wz gz #[.int .i64 x.state, .int .i64 x.owner, .int .i64 x.value, .slice az q.n cz] 83 ∧ wz.ownsRow u2.heap.size 3 1 (.slice az q.n cz) q.n (ints x.waits)] ⟨fun _ _ _ _ hb ⟨a, c, e, h⟩ => ⟨a, c, e, owns_below h hb⟩, fun _ _ _ _ hb ⟨g, a, c, e, h, h1⟩ => ⟨g, a, c, e, h.below hb, owns_below h1 hb⟩, trivial⟩ ?s2 ?e2
     case s2 =>
      repeat' apply And.intro
      all_goals first | trivial | (intro ρ w1 hG hfr hd; obtain ⟨fc, ff⟩ := fcff hfr; have f3 := hfr (.tmp 3) rfl; have f1 := hfr (.tmp 1) rfl; have f5 := hfr (.tmp 5) rfl; have F1 := h3.fr.call hG; have co := F1.c9 0 rfl; have cs := F1.c9 2 rfl; have g0 := keepc hG g0; have g1 := keepc hG g1; have g2 := keepc hG g2; have g3 := keepc hG g3)
      exact rk0; exact rk1; exact rk0; exact rk1; exact rk0
      ·have d : ρ (.tmp _) = _ := hd.1; have d' : ρ (.tmp _) = _ := hd.2.1; rw [HEA.out] at d; exact rk0
      exact rk1
      ·obtain ⟨d0, -⟩ := hd
       have d0 : ρ (.tmp 56) = _ := d0
       refine gives_call (by go_simp; exact ⟨⟨rfl, rfl⟩, rfl⟩) ?_
       refine (specOnceCopy_any x q.a q.n q.c _ QL0.out.symm (by rw [QL0.out, HX.out]; exact HZ.out.qon k) ((h3.fr.call hG).rd Q0.out)).mono ?_
       rintro e w2 ⟨a1, c1, rfl, ho, hb⟩
       exact ⟨_, rfl, hb, ⟨a1, c1, rfl, owns_mono ho hG.size⟩, xN1, hG.trans (hb.mono hG.size)⟩
      ·obtain ⟨d0, -⟩ := hd
       have d0 : ∃ (az : Option Addr) (cz : Nat), (ρ (.tmp 57)) = .agg #[.int .i64 x.state, .int .i64 x.owner, .int .i64 x.value, .slice az q.n cz] ∧ w1.ownsRow u2.heap.size 3 1 (.slice az q.n cz) q.n (ints x.waits) := d0
       obtain ⟨azz, czz, d0, ho⟩ := d0
       have hb : Below w1.heap.size w1 (w1.alloc (.cells #[.int .i64 x.state, .int .i64 x.owner, .int .i64 x.value, .slice azz q.n czz] 83)) := xA1
       refine gives_val (u := .slice (some ⟨w1.heap.size, 0, none⟩) 1 1) (w' := w1.alloc (.cells #[.int .i64 x.state, .int .i64 x.owner, .int .i64 x.value, .slice azz q.n czz] 83)) (by go_simp) ⟨hb, ⟨_, azz, czz, rfl, Blk.new _ _ _, owns_below ho hb⟩, xN1, hG.alloc hG.size _⟩
     intro w2 hG
     refine rk_end ?_
     intro xv7 hv7 xv8 hv8
     obtain ⟨gz, az, cz, rfl, kL, ho⟩ := hv8
     have hq : onceR (foots (cl3 w G V v) ++ V.blks) w2 x ⟨az, q.n, cz⟩ := by
      have h9 := h3.apart (SlN.of_owns ho xL1)
      show SlR _ _ _ _ x.waits.length
      rw [← QL0.out]
      exact h9
     have HN2 := HN.on1 (x := x) (q := ⟨az, q.n, cz⟩) (newS.lower (SlN.of_owns ho xL1).new h3.bel.size)
     have h4 := h3.call hG
     have HQ := xH1 hq
     clear hq hG h3 hv7 g0 g1 g2 g3
     go_wp2_with (at_builtin; refine h4.app_on rfl _ _ rfl rfl rfl (Rd.of_blk kL) HQ.out (by have := HVN.out; omega) ?_; intro r W5 h5; have co := h5.c9 0 rfl; have h6 := (h5.set 0 rfl 3 r.val).sub (l' := cl3 w G { V with on := r } v) (.refl _))
     go_roundw
     case rel => exact ⟨k + 1, _, _, by omega, by go_num, by
      have e : part s v.se.n (k + 1) 0 0 0 = { part s v.se.n k 0 0 0 with onces := s.onces.take k ++ [x] } := by unfold part; rw [HP.out]
      rw [e]
      exact h6, HN2⟩
     case measure => simp [intOf]; omega
    ·obtain rfl : k = v.on.n := by omega
     clear hlt hk
     go_wp2
     clear cs
     go_loopw [6] (fun i wr => ∃ (k : Nat) (V : StV) (M : StL), k ≤ v.gr.n ∧ i = .int .i64 k ∧ Sf w wr (cl3 w G V v) V M (part s v.se.n v.on.n k 0 0) ∧ NewB w.heap.size M) (fun i _ => v.gr.n - (intOf i).toNat)
     case atStart => exact ⟨0, V, _, by omega, rfl, h, HN⟩
     case round =>
      clear h HN
      obtain ⟨k, V, M, hk, rfl, h, HN⟩ := hrel
      have cs := h.c9 2 rfl
      by_cases hlt : k < v.gr.n
      ·have hks : k < s.groups.length := by have := Lgr.out; omega
       obtain ⟨x, q, b1, o1, HX, ea, g0, g1, Q0, QL0, QC0⟩ := HS.out.at_gr (j := k) hks
       replace g0 := keepc h.bel g0
       replace g1 := keepc h.bel g1
       have HEA := xH1 ea
       clear ea
       have HVN : Hid (V.gr.n = k) := xH1 (by rw [h.st.ngr]; show (s.groups.take k).length = k; rw [List.length_take]; omega)
       have HP : Hid (s.groups.take (k + 1) = s.groups.take k ++ [x]) := xH1 (by rw [HX.out]; exact (take_snoc _ _ hks).symm)
       have i0 : (0 : Int) ≤ (k : Int) := by omega
       have i1 : (k : Int) < (v.gr.n : Int) := by omega
       clear hks
       go_upto_region 13 with fail
       obtain ⟨u2, hu⟩ : ∃ u2 : World, u2 = wr := ⟨_, rfl⟩
       rw [← hu] at h g0 g1 ⊢
       clear hu cs
       have h3 := h
       clear h
       apply wp_rk 18 [.k _, .k _, .k _, .k _, .k _, .k _, .k _, .k _, .r (rqE u2.heap.size 3 1), .k _, .k _, .k _, .k _, .k _, .k _, .r (rqA u2.heap.size 3 1 (q.n) (ints x.waits)), .r fun dz uz wz => ∃ (az : Option Addr) (cz : Nat), uz = .agg #[.int .i64 x.count, .slice az q.n cz] ∧ wz.ownsRow u2.heap.size 3 1 (.slice az q.n cz) q.n (ints x.waits), .r fun dz uz wz => ∃ (gz : Nat) (az : Option Addr) (cz : Nat), uz = .slice (some ⟨gz, 0, none⟩) 1 1 ∧ Blk wz gz #[.int .i64 x.count, .slice az q.n cz] 85 ∧ wz.ownsRow u2.heap.size 3 1 (.slice az q.n cz) q.n (ints x.waits)] ⟨stE, stA, fun _ _ _ _ hb ⟨a, c, e, h⟩ => ⟨a, c, e, owns_below h hb⟩, fun _ _ _ _ hb ⟨g, a, c, e, h, h1⟩ => ⟨g, a, c, e, h.below hb, owns_below h1 hb⟩, trivial⟩ ?s3 ?e3
       case s3 =>
        repeat' apply And.intro
        all_goals first | trivial | (intro ρ w1 hG hfr hd; obtain ⟨fc, ff⟩ := fcff hfr; have f3 := hfr (.tmp 3) rfl; have f1 := hfr (.tmp 1) rfl; have f6 := hfr (.tmp 6) rfl; have F1 := h3.fr.call hG; have co := F1.c9 0 rfl; have cs := F1.c9 2 rfl; have g0 := keepc hG g0; have g1 := keepc hG g1)
        exact rk0; exact rk1; exact rk0; exact rk1; exact rk0
        ·have d : ρ (.tmp _) = _ := hd.1; have d' : ρ (.tmp _) = _ := hd.2.1; rw [HEA.out] at d; exact rk0
        exact rk1; exact rk1; exact rkE; exact rk0; exact rk1; exact rk0
        ·have d : ρ (.tmp _) = _ := hd.1; have d' : ρ (.tmp _) = _ := hd.2.1; rw [HEA.out] at d; exact rk0
        exact rk1; exact rk1
        ·have d : ρ (.tmp _) = _ := hd.2.1
         have hq9 : q.n ≤ 1048576 := by rw [QL0.out, HX.out]; have := HZ.out.qgr k; omega
         exact gkA hG _ _ 23 rfl Try.underlying23 info_int rfl (by decide) hd.1 d (by rw [List.length_map, QL0.out, Nat.mul_one]) ((h3.fr.call hG).rd Q0.out) (ints_one x.waits) (by omega) (by decide) (fun _ _ h => h)
        ·obtain ⟨d0, d1, -⟩ := hd
         have d0 : ρ (.tmp 75) = _ := d0
         have d1 : ∃ (az : Option Addr) (cz : Nat), (ρ (.tmp 83)) = .slice az q.n cz ∧ w1.ownsRow u2.heap.size 3 1 (.slice az q.n cz) q.n (ints x.waits) ∧ (q.n = 0 → cz = 0) := d1
         obtain ⟨azz, czz, d1, ho, -⟩ := d1
         exact gvF hG (by go_simp) ⟨azz, czz, rfl, ho⟩ xN1
        ·obtain ⟨d0, -⟩ := hd
         have d0 : ∃ (az : Option Addr) (cz : Nat), (ρ (.tmp 84)) = .agg #[.int .i64 x.count, .slice az q.n cz] ∧ w1.ownsRow u2.heap.size 3 1 (.slice az q.n cz) q.n (ints x.waits) := d0
         obtain ⟨azz, czz, d0, ho⟩ := d0
         have hb : Below w1.heap.size w1 (w1.alloc (.cells #[.int .i64 x.count, .slice azz q.n czz] 85)) := xA1
         refine gives_val (u := .slice (some ⟨w1.heap.size, 0, none⟩) 1 1) (w' := w1.alloc (.cells #[.int .i64 x.count, .slice azz q.n czz] 85)) (by go_simp) ⟨hb, ⟨_, azz, czz, rfl, Blk.new _ _ _, owns_below ho hb⟩, xN1, hG.alloc hG.size _⟩
       intro w2 hG
       refine rk_end ?_
       intro xv8 hv8 xv15 hv15 xv16 hv16 xv17 hv17
       obtain ⟨gz, az, cz, rfl, kL, ho⟩ := hv17
       have hq : grpR (foots (cl3 w G V v) ++ V.blks) w2 x ⟨az, q.n, cz⟩ := by
        have h9 := h3.apart (SlN.of_owns ho xL1)
        show SlR _ _ _ _ x.waits.length
        rw [← QL0.out]
        exact h9
       have HN2 := HN.gr1 (x := x) (q := ⟨az, q.n, cz⟩) (newS.lower (SlN.of_owns ho xL1).new h3.bel.size)
       have h4 := h3.call hG
       have HQ := xH1 hq
       clear hq hG h3 hv16 g0 g1
       go_wp2_with (at_builtin; refine h4.app_gr rfl _ _ rfl rfl rfl (Rd.of_blk kL) HQ.out (by have := HVN.out; omega) ?_; intro r W5 h5; have co := h5.c9 0 rfl; have h6 := (h5.set 0 rfl 4 r.val).sub (l' := cl3 w G { V with gr := r } v) (.refl _))
       go_roundw
       case rel => exact ⟨k + 1, _, _, by omega, by go_num, by
        have e : part s v.se.n v.on.n (k + 1) 0 0 = { part s v.se.n v.on.n k 0 0 with groups := s.groups.take k ++ [x] } := by unfold part; rw [HP.out]
        rw [e]
        exact h6, HN2⟩
       case measure => simp [intOf]; omega
      ·obtain rfl : k = v.gr.n := by omega
       clear hlt hk
       go_wp2
       clear cs
       go_loopw [7] (fun i wr => ∃ (k : Nat) (V : StV) (M : StL), k ≤ v.ba.n ∧ i = .int .i64 k ∧ Sf w wr (cl3 w G V v) V M (part s v.se.n v.on.n v.gr.n k 0) ∧ NewB w.heap.size M) (fun i _ => v.ba.n - (intOf i).toNat)
       case atStart => exact ⟨0, V, _, by omega, rfl, h, HN⟩
       case round =>
        clear h HN
        obtain ⟨k, V, M, hk, rfl, h, HN⟩ := hrel
        have cs := h.c9 2 rfl
        by_cases hlt : k < v.ba.n
        ·have hks : k < s.bars.length := by have := Lba.out; omega
         obtain ⟨x, q, b1, o1, HX, ea, g0, g1, g2, Q0, QL0, QC0⟩ := HS.out.at_ba (j := k) hks
         replace g0 := keepc h.bel g0
         replace g1 := keepc h.bel g1
         replace g2 := keepc h.bel g2
         have HEA := xH1 ea
         clear ea
         have HVN : Hid (V.ba.n = k) := xH1 (by rw [h.st.nba]; show (s.bars.take k).length = k; rw [List.length_take]; omega)
         have HP : Hid (s.bars.take (k + 1) = s.bars.take k ++ [x]) := xH1 (by rw [HX.out]; exact (take_snoc _ _ hks).symm)
         have i0 : (0 : Int) ≤ (k : Int) := by omega
         have i1 : (k : Int) < (v.ba.n : Int) := by omega
         clear hks
         have ea := HEA.out
         rw [ea] at cs
         have h2 := h.alloc #[.int .i64 x.parties, .int .i64 x.round, .slice q.a q.n q.c] 87
         have cx := h2.c3 0 rfl
         go_upto_region 18 with fail
         obtain ⟨u2, hu, h3⟩ := h2.named
         rw [← hu]
         clear hu h2 h cx cs ea g0 g1 g2
         apply wp_rk 12 [.k _, .k _, .k _, .k _, .k _, .k _, .r (rqE u2.heap.size 3 1), .k _, .k _, .r (rqA u2.heap.size 3 1 (q.n) (ints x.waits)), .r fun dz uz wz => ∃ (az : Option Addr) (cz : Nat), uz = .agg #[.int .i64 x.parties, .int .i64 x.round, .slice az q.n cz] ∧ wz.ownsRow u2.heap.size 3 1 (.slice az q.n cz) q.n (ints x.waits), .r fun dz uz wz => ∃ (gz : Nat) (az : Option Addr) (cz : Nat), uz = .slice (some ⟨gz, 0, none⟩) 1 1 ∧ Blk wz gz #[.int .i64 x.parties, .int .i64 x.round, .slice az q.n cz] 87 ∧ wz.ownsRow u2.heap.size 3 1 (.slice az q.n cz) q.n (ints x.waits)] ⟨stE, stA, fun _ _ _ _ hb ⟨a, c, e, h⟩ => ⟨a, c, e, owns_below h hb⟩, fun _ _ _ _ hb ⟨g, a, c, e, h, h1⟩ => ⟨g, a, c, e, h.below hb, owns_below h1 hb⟩, trivial⟩ ?s4 ?e4
         case s4 =>
          repeat' apply And.intro
          all_goals first | trivial | (intro ρ w1 hG hfr hd; obtain ⟨fc, ff⟩ := fcff hfr; have f3 := hfr (.tmp 3) rfl; have f8 := hfr (.tmp 8) rfl; have F1 := h3.fr.call hG; have co := F1.c9 1 rfl; have cx := F1.c3 0 rfl; clear F1)
          exact rk0; exact rk1; exact rk0; exact rk1; exact rk0; exact rk1; exact rkE; exact rk0; exact rk1
          ·have d : ρ (.tmp _) = _ := hd.2.1
           have hq9 : q.n ≤ 1048576 := by rw [QL0.out, HX.out]; have := HZ.out.qba k; omega
           exact gkA hG _ _ 23 rfl Try.underlying23 info_int rfl (by decide) hd.1 d (by rw [List.length_map, QL0.out, Nat.mul_one]) ((h3.fr.call hG).rd Q0.out) (ints_one x.waits) (by omega) (by decide) (fun _ _ h => h)
          ·obtain ⟨d0, d1, d2, -⟩ := hd
           have d0 : ρ (.tmp 103) = _ := d0
           have d1 : ρ (.tmp 105) = _ := d1
           have d2 : ∃ (az : Option Addr) (cz : Nat), (ρ (.tmp 109)) = .slice az q.n cz ∧ w1.ownsRow u2.heap.size 3 1 (.slice az q.n cz) q.n (ints x.waits) ∧ (q.n = 0 → cz = 0) := d2
           obtain ⟨azz, czz, d2, ho, -⟩ := d2
           exact gvF hG (by go_simp) ⟨azz, czz, rfl, ho⟩ xN1
          ·obtain ⟨d0, -⟩ := hd
           have d0 : ∃ (az : Option Addr) (cz : Nat), (ρ (.tmp 110)) = .agg #[.int .i64 x.parties, .int .i64 x.round, .slice az q.n cz] ∧ w1.ownsRow u2.heap.size 3 1 (.slice az q.n cz) q.n (ints x.waits) := d0
           obtain ⟨azz, czz, d0, ho⟩ := d0
           have hb : Below w1.heap.size w1 (w1.alloc (.cells #[.int .i64 x.parties, .int .i64 x.round, .slice azz q.n czz] 87)) := xA1
           refine gives_val (u := .slice (some ⟨w1.heap.size, 0, none⟩) 1 1) (w' := w1.alloc (.cells #[.int .i64 x.parties, .int .i64 x.round, .slice azz q.n czz] 87)) (by go_simp) ⟨hb, ⟨_, azz, czz, rfl, Blk.new _ _ _, owns_below ho hb⟩, xN1, hG.alloc hG.size _⟩
         intro w2 hG
         refine rk_end ?_
         intro xv6 hv6 xv9 hv9 xv10 hv10 xv11 hv11
         obtain ⟨gz, az, cz, rfl, kL, ho⟩ := hv11
         have hq : barR (foots (.blk wr.heap.size #[.int .i64 x.parties, .int .i64 x.round, .slice q.a q.n q.c] 87 :: cl3 w G V v) ++ V.blks) w2 x ⟨az, q.n, cz⟩ := by
          have h9 := h3.apart (SlN.of_owns ho xL1)
          show SlR _ _ _ _ x.waits.length
          rw [← QL0.out]
          exact h9
         have HN2 := HN.ba1 (x := x) (q := ⟨az, q.n, cz⟩) (newS.lower (SlN.of_owns ho xL1).new h3.bel.size)
         have h4 := h3.call hG
         have HQ := xH1 hq
         clear hq hG h3 hv10
         go_wp2_with (at_builtin; refine h4.app_ba rfl _ _ rfl rfl rfl (Rd.of_blk kL) HQ.out (by have := HVN.out; omega) ?_; intro r W5 h5; have co := h5.c9 1 rfl; have h6 := (h5.set 1 rfl 5 r.val).sub (l' := cl3 w G { V with ba := r } v) (.cons _ (.refl _)))
         go_roundw
         case rel => exact ⟨k + 1, _, _, by omega, by go_num, by
          have e : part s v.se.n v.on.n v.gr.n (k + 1) 0 = { part s v.se.n v.on.n v.gr.n k 0 with bars := s.bars.take k ++ [x] } := by unfold part; rw [HP.out]
          rw [e]
          exact h6, HN2⟩
         case measure => simp [intOf]; omega
        ·obtain rfl : k = v.ba.n := by omega
         clear hlt hk
         go_wp2
         clear cs
         go_loopw [9] (fun i wr => ∃ (k : Nat) (V : StV) (M : StL), k ≤ v.ch.n ∧ i = .int .i64 k ∧ Sf w wr (cl3 w G V v) V M (part s v.se.n v.on.n v.gr.n v.ba.n k) ∧ NewB w.heap.size M) (fun i _ => v.ch.n - (intOf i).toNat)
         case atStart => exact ⟨0, V, _, by omega, rfl, h, HN⟩
         case round =>
          clear h HN
          obtain ⟨k, V, M, hk, rfl, h, HN⟩ := hrel
          have cs := h.c9 2 rfl
          by_cases hlt : k < v.ch.n
          ·have hks : k < s.chans.length := by have := Lch.out; omega
           obtain ⟨x, q, b1, o1, HX, ea, g0, g1, g2, g3, g4, Q0, QL0, QC0, Q1, QL1, QC1, Q2, QL2, QC2⟩ := HS.out.at_ch (j := k) hks
           replace g0 := keepc h.bel g0
           replace g1 := keepc h.bel g1
           replace g2 := keepc h.bel g2
           replace g3 := keepc h.bel g3
           replace g4 := keepc h.bel g4
           have HEA := xH1 ea
           clear ea
           have HVN : Hid (V.ch.n = k) := xH1 (by rw [h.st.nch]; show (s.chans.take k).length = k; rw [List.length_take]; omega)
           have HP : Hid (s.chans.take (k + 1) = s.chans.take k ++ [x]) := xH1 (by rw [HX.out]; exact (take_snoc _ _ hks).symm)
           have i0 : (0 : Int) ≤ (k : Int) := by omega
           have i1 : (k : Int) < (v.ch.n : Int) := by omega
           clear hks
           go_upto_region 22 with fail
           obtain ⟨u2, hu⟩ : ∃ u2 : World, u2 = wr := ⟨_, rfl⟩
           rw [← hu] at h g0 g1 g2 g3 g4 ⊢
           clear hu cs
           have h3 := h
           clear h
           apply wp_rk 9 [.k _, .k _, .k _, .k _, .k _, .k _, .k _, .r fun dz uz wz => ∃ (bi bs bg : Option Addr) (di ds dg : Nat), uz = .agg #[.int .i64 x.room, .slice bi q.1.n di, .slice bs q.2.1.n ds, .slice bg q.2.2.n dg, .bool x.closed] ∧ wz.ownsRow u2.heap.size 3 1 (.slice bi q.1.n di) q.1.n (ints x.items) ∧ wz.ownsRow u2.heap.size 155 2 (.slice bs q.2.1.n ds) q.2.1.n (pairs x.senders) ∧ wz.ownsRow u2.heap.size 3 1 (.slice bg q.2.2.n dg) q.2.2.n (ints x.getters), .r fun dz uz wz => ∃ (gz : Nat) (bi bs bg : Option Addr) (di ds dg : Nat), uz = .slice (some ⟨gz, 0, none⟩) 1 1 ∧ Blk wz gz #[.int .i64 x.room, .slice bi q.1.n di, .slice bs q.2.1.n ds, .slice bg q.2.2.n dg, .bool x.closed] 92 ∧ wz.ownsRow u2.heap.size 3 1 (.slice bi q.1.n di) q.1.n (ints x.items) ∧ wz.ownsRow u2.heap.size 155 2 (.slice bs q.2.1.n ds) q.2.1.n (pairs x.senders) ∧ wz.ownsRow u2.heap.size 3 1 (.slice bg q.2.2.n dg) q.2.2.n (ints x.getters)] ⟨fun _ _ _ _ hb ⟨a, b, c, d1, d2, d3, e, h1, h2, h3⟩ => ⟨a, b, c, d1, d2, d3, e, owns_below h1 hb, owns_below h2 hb, owns_below h3 hb⟩, fun _ _ _ _ hb ⟨g, a, b, c, d1, d2, d3, e, h, h1, h2, h3⟩ => ⟨g, a, b, c, d1, d2, d3, e, h.below hb, owns_below h1 hb, owns_below h2 hb, owns_below h3 hb⟩, trivial⟩ ?s5 ?e5
           case s5 =>
            repeat' apply And.intro
            all_goals first | trivial | (intro ρ w1 hG hfr hd; obtain ⟨fc, ff⟩ := fcff hfr; have f3 := hfr (.tmp 3) rfl; have f1 := hfr (.tmp 1) rfl; have f9 := hfr (.tmp 9) rfl; have F1 := h3.fr.call hG; have co := F1.c9 0 rfl; have cs := F1.c9 2 rfl; have g0 := keepc hG g0; have g1 := keepc hG g1; have g2 := keepc hG g2; have g3 := keepc hG g3; have g4 := keepc hG g4)
            exact rk0; exact rk1; exact rk0; exact rk1; exact rk0
            ·have d : ρ (.tmp _) = _ := hd.1; have d' : ρ (.tmp _) = _ := hd.2.1; rw [HEA.out] at d; exact rk0
            exact rk1
            ·obtain ⟨d0, -⟩ := hd
             have d0 : ρ (.tmp 127) = _ := d0
             refine gives_call (by go_simp; exact ⟨⟨rfl, rfl⟩, rfl⟩) ?_
             refine (specChanCopy_any x q.1.a q.2.1.a q.2.2.a q.1.n q.1.c q.2.1.n q.2.1.c q.2.2.n q.2.2.c _ QL0.out.symm QL1.out.symm QL2.out.symm (by rw [QL0.out, HX.out]; exact (HZ.out.qch k).1) (by rw [QL1.out, HX.out]; exact (HZ.out.qch k).2.1) (by rw [QL2.out, HX.out]; exact (HZ.out.qch k).2.2) ((h3.fr.call hG).rd Q0.out) ((h3.fr.call hG).rd Q1.out) ((h3.fr.call hG).rd Q2.out)).mono ?_
             rintro e w2 ⟨bi, bs, bg, di, ds, dg, rfl, o1, o2, o3, hb⟩
             exact ⟨_, rfl, hb, ⟨bi, bs, bg, di, ds, dg, rfl, owns_mono o1 hG.size, owns_mono o2 hG.size, owns_mono o3 hG.size⟩, xN1, hG.trans (hb.mono hG.size)⟩
            ·obtain ⟨d0, -⟩ := hd
             have d0 : ∃ (bi bs bg : Option Addr) (di ds dg : Nat), (ρ (.tmp 128)) = .agg #[.int .i64 x.room, .slice bi q.1.n di, .slice bs q.2.1.n ds, .slice bg q.2.2.n dg, .bool x.closed] ∧ w1.ownsRow u2.heap.size 3 1 (.slice bi q.1.n di) q.1.n (ints x.items) ∧ w1.ownsRow u2.heap.size 155 2 (.slice bs q.2.1.n ds) q.2.1.n (pairs x.senders) ∧ w1.ownsRow u2.heap.size 3 1 (.slice bg q.2.2.n dg) q.2.2.n (ints x.getters) := d0
             obtain ⟨bi, bs, bg, di, ds, dg, d0, o1, o2, o3⟩ := d0
             have hb : Below w1.heap.size w1 (w1.alloc (.cells #[.int .i64 x.room, .slice bi q.1.n di, .slice bs q.2.1.n ds, .slice bg q.2.2.n dg, .bool x.closed] 92)) := xA1
             refine gives_val (u := .slice (some ⟨w1.heap.size, 0, none⟩) 1 1) (w' := w1.alloc (.cells #[.int .i64 x.room, .slice bi q.1.n di, .slice bs q.2.1.n ds, .slice bg q.2.2.n dg, .bool x.closed] 92)) (by go_simp) ⟨hb, ⟨_, bi, bs, bg, di, ds, dg, rfl, Blk.new _ _ _, owns_below o1 hb, owns_below o2 hb, owns_below o3 hb⟩, xN1, hG.alloc hG.size _⟩
           intro w2 hG
           refine rk_end ?_
           intro xv7 hv7 xv8 hv8
           obtain ⟨gz, bi, bs, bg, di, ds, dg, rfl, kL, o1, o2, o3⟩ := hv8
           have hq : chnR (foots (cl3 w G V v) ++ V.blks) w2 x (⟨bi, q.1.n, di⟩, ⟨bs, q.2.1.n, ds⟩, ⟨bg, q.2.2.n, dg⟩) := ⟨by rw [← QL0.out]; exact h3.apart (SlN.of_owns o1 xL1), by rw [← QL1.out]; exact h3.apart (SlN.of_owns o2 xL1), by rw [← QL2.out]; exact h3.apart (SlN.of_owns o3 xL1)⟩
           have HN2 := HN.ch1 (x := x) (q := (⟨bi, q.1.n, di⟩, ⟨bs, q.2.1.n, ds⟩, ⟨bg, q.2.2.n, dg⟩)) ⟨newS.lower (SlN.of_owns o1 xL1).new h3.bel.size, newS.lower (SlN.of_owns o2 xL1).new h3.bel.size, newS.lower (SlN.of_owns o3 xL1).new h3.bel.size⟩
           have h4 := h3.call hG
           have HQ := xH1 hq
           clear hq hG h3 hv7 g0 g1 g2 g3 g4
           go_wp2_with (at_builtin; refine h4.app_ch rfl _ _ rfl rfl rfl (Rd.of_blk kL) HQ.out (by have := HVN.out; omega) ?_; intro r W5 h5; have co := h5.c9 0 rfl; have h6 := (h5.set 0 rfl 6 r.val).sub (l' := cl3 w G { V with ch := r } v) (.refl _))
           go_roundw
           case rel => exact ⟨k + 1, _, _, by omega, by go_num, by
            have e : part s v.se.n v.on.n v.gr.n v.ba.n (k + 1) = { part s v.se.n v.on.n v.gr.n v.ba.n k with chans := s.chans.take k ++ [x] } := by unfold part; rw [HP.out]
            rw [e]
            exact h6, HN2⟩
           case measure => simp [intOf]; omega
          ·obtain rfl : k = v.ch.n := by omega
           clear hlt hk
           have co := h.c9 0 rfl
           have cr := h.c9 1 rfl
           have hp : part s v.se.n v.on.n v.gr.n v.ba.n v.ch.n = s := by rw [Lse.out, Lon.out, Lgr.out, Lba.out, Lch.out]; exact part_all s
           rw [hp] at h
           have h7 := h.set9 1 rfl (.slice V.pl.a V.pl.n V.pl.c) (.slice V.st.a V.st.n V.st.c) (.slice V.se.a V.se.n V.se.c) (.slice V.on.a V.on.n V.on.c) (.slice V.gr.a V.gr.n V.gr.c) (.slice V.ba.a V.ba.n V.ba.c) (.slice V.ch.a V.ch.n V.ch.c) (.slice V.sa.a V.sa.n V.sa.c) (.int .i64 V.fl)
           go_wp2
           exact bodyPost_ret (v := .agg #[.slice V.pl.a V.pl.n V.pl.c, .slice V.st.a V.st.n V.st.c, .slice V.se.a V.se.n V.se.c, .slice V.on.a V.on.n V.on.c, .slice V.gr.a V.gr.n V.gr.c, .slice V.ba.a V.ba.n V.ba.c, .slice V.ch.a V.ch.n V.ch.c, .slice V.sa.a V.sa.n V.sa.c, .int .i64 V.fl]) (by simp [results, Try.results38, go_sem, h7.c9 1 rfl]) rfl ⟨V, M, rfl, h7.st.sub (by simp), HN, h7.bel⟩
end Go.Proofs.Ytfpgijihiifogaa
