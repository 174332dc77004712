/- Part of a proof: RChnC RChn2 RChn3. -/
import Derived.Test.YtfpgijihiifogaaQRkb
import Derived.Test.YtfpgijihiifogaaQMChnS2
set_option maxRecDepth 100000
set_option maxHeartbeats 16000000
namespace Go.Proofs.Ytfpgijihiifogaa
open Go.RowKit
theorem specChanCopy_fr (x : ChnD) (ai al ag : Option Addr) (ni ci nl cl ng cg : Nat) (w : World) (h1 : x.items.length = ni) (h2 : x.senders.length = nl) (h3 : x.getters.length = ng) (n1 : ni ≤ 1048576) (n2 : nl ≤ 1048576) (n3 : ng ≤ 1048576) (r1 : Rd w ai (ints x.items)) (r2 : Rd w al (pairs x.senders)) (r3 : Rd w ag (ints x.getters)) :
  Calls Try.prog 59 #[.agg #[.int .i64 x.room, .slice ai ni ci, .slice al nl cl, .slice ag ng cg, .bool x.closed]] w fun e w' => ∃ (bi bs bg : Option Addr) (di ds dg : Nat), e = .returned (.agg #[.int .i64 x.room, .slice bi ni di, .slice bs nl ds, .slice bg ng dg, .bool x.closed]) ∧ Fr w w' [.row bi ni di 3 1 (ints x.items), .row bs nl ds 155 2 (pairs x.senders), .row bg ng dg 3 1 (ints x.getters)] := by
 have L1 := xH1 h1
 have L2 := xH1 h2
 have L3 := xH1 h3
 clear h1 h2 h3
 have F0 := ((Fr.start w).alloc #[.int .i64 x.room, .slice ai ni ci, .slice al nl cl, .slice ag ng cg, .bool x.closed] 92).alloc #[.int .i64 0, .slice none 0 0, .slice none 0 0, .slice none 0 0, .bool false] 92
 simp only [World.size_alloc] at F0
 go_enter Try.func59, Try.ntmps59
 go_wp2_with fail
 obtain ⟨u1, hu, F⟩ := F0.named
 rw [← hu]
 clear hu F0
 apply wp_rkb 17 [nB, nB, Value.ownBlock, nB, nB, slBk ni, Value.ownBlock, nB, nB, slBk nl, Value.ownBlock, nB, nB, slBk ng] [.k _, .k _, .r (rqE u1.heap.size 3 1), .k _, .k _, .r (rqB u1.heap.size 3 1 ni (ints x.items)), .r (rqE u1.heap.size 155 2), .k _, .k _, .r (rqB u1.heap.size 155 2 nl (pairs x.senders)), .r (rqE u1.heap.size 3 1), .k _, .k _, .r (rqB u1.heap.size 3 1 ng (ints x.getters)), .k _, .k _, .r fun ds u _ => u = .agg ds.toArray] ⟨stE, stB, stE, stB, stE, stB, fun _ _ _ _ _ h => h, trivial⟩ ?s1 ?e1
 case s1 =>
  repeat' apply And.intro
  all_goals first | trivial | (intro ρ w1 hG hfr hd; obtain ⟨fc, ff⟩ := fcff hfr; have f1 := hfr (.tmp 1) rfl; have F1 := F.call hG; have cs := F1.c5 1 rfl)
  exact rk0; exact rk1; exact rkEb; exact rk0; exact rk1
  ·have d : ρ (.tmp _) = _ := hd.2.1
   exact gkB hG _ _ 23 rfl Try.underlying23 info_int rfl (by decide) hd.1 d (by rw [List.length_map, L1.out, Nat.mul_one]) ((F.rd r1).below hG) (ints_one x.items) (by omega) (by decide) (fun _ _ h => h)
  exact rkEb; exact rk0; exact rk1
  ·have d : ρ (.tmp _) = _ := hd.2.1
   exact gkB hG _ _ 90 rfl Try.underlying90 info_let' rfl (by decide) hd.1 d (by rw [pairs_len, L2.out]) ((F.rd r2).below hG) (pairs_one x.senders) (by omega) (by decide) (fun _ _ h => h)
  exact rkEb; exact rk0; exact rk1
  ·have d : ρ (.tmp _) = _ := hd.2.1
   exact gkB hG _ _ 23 rfl Try.underlying23 info_int rfl (by decide) hd.1 d (by rw [List.length_map, L3.out, Nat.mul_one]) ((F.rd r3).below hG) (ints_one x.getters) (by omega) (by decide) (fun _ _ h => h)
  exact rk0; exact rk1
  ·obtain ⟨d0, ⟨a1, c1, d1, -⟩, ⟨a2, c2, d2, -⟩, ⟨a3, c3, d3, -⟩, d4, -⟩ := hd
   replace d0 : ρ (.tmp 4) = _ := d0
   replace d1 : ρ (.tmp 8) = _ := d1
   replace d2 : ρ (.tmp 12) = _ := d2
   replace d3 : ρ (.tmp 16) = _ := d3
   replace d4 : ρ (.tmp 18) = _ := d4
   refine gvV hG (V := .agg #[.int .i64 x.room, .slice a1 ni c1, .slice a2 nl c2, .slice a3 ng c3, .bool x.closed]) (by go_simp) ?_
   show Value.agg _ = Value.agg #[ρ (.tmp 4), ρ (.tmp 8), ρ (.tmp 12), ρ (.tmp 16), ρ (.tmp 18)]
   rw [d0, d1, d2, d3, d4]
 intro w2 hG
 refine rk_end ?_
 intro x2 hx2 x5 hx5 x6 hx6 x9 hx9 x10 hx10 x13 hx13 x16 hx16 hap
 obtain ⟨a1, c1, rfl, o1, z1⟩ := hx5
 obtain ⟨a2, c2, rfl, o2, z2⟩ := hx9
 obtain ⟨a3, c3, rfl, o3, z3⟩ := hx13
 obtain rfl : x16 = .agg #[.int .i64 x.room, .slice a1 ni c1, .slice a2 nl c2, .slice a3 ng c3, .bool x.closed] := hx16
 have F2 := F.rows3 hG o1 o2 o3 (ap_rows (e := x2) (f := x6) (hap 2 6 (by simp) (by simp) (by decide)) (hap 2 9 (by simp) (by simp) (by decide)) (hap 5 6 (by simp) (by simp) (by decide)) (hap 5 9 (by simp) (by simp) (by decide)) z1 z2) (ap_rows (e := x2) (f := x10) (hap 2 10 (by simp) (by simp) (by decide)) (hap 2 13 (by simp) (by simp) (by decide)) (hap 5 10 (by simp) (by simp) (by decide)) (hap 5 13 (by simp) (by simp) (by decide)) z1 z3) (ap_rows (e := x6) (f := x10) (hap 6 10 (by simp) (by simp) (by decide)) (hap 6 13 (by simp) (by simp) (by decide)) (hap 9 10 (by simp) (by simp) (by decide)) (hap 9 13 (by simp) (by simp) (by decide)) z2 z3)
 clear hap hx2 hx6 hx10 o1 o2 o3 z1 z2 z3 hG F
 have cz := F2.c5 3 rfl
 have F3 := (F2.set5 3 rfl (.int .i64 x.room) (.slice a1 ni c1) (.slice a2 nl c2) (.slice a3 ng c3) (.bool x.closed))
 clear F2
 go_wp2
 exact bodyPost_ret (v := .agg #[.int .i64 x.room, .slice a1 ni c1, .slice a2 nl c2, .slice a3 ng c3, .bool x.closed]) (by simp [results, Try.results59, go_sem, F3.c5 3 rfl]) rfl ⟨a1, a2, a3, c1, c2, c3, rfl, F3.sub (by simp)⟩
def sendQ (x : ChnD) (t v : Int) (w : World) (e : Ending) (w' : World) : Prop := ∃ (y : ChnD) (s1 s2 s3 u : SlV) (l : List Int) (sent b : Bool), chnSend x t v = (if b = true then some (y, l, sent) else none) ∧ e = .returned (.tuple #[chnV y s1 s2 s3, u.val, .bool sent, .bool b]) ∧ Fr w w' [.row s1.a s1.n s1.c 3 1 (ints y.items), .row s2.a s2.n s2.c 155 2 (pairs y.senders), .row s3.a s3.n s3.c 3 1 (ints y.getters), .row u.a u.n u.c 3 1 (ints l)]
theorem specSendChan_fr (x : ChnD) (ai al ag : Option Addr) (ni ci nl cl ng cg : Nat) (t v : Int) (w : World) (h1 : x.items.length = ni) (h2 : x.senders.length = nl) (h3 : x.getters.length = ng) (k3 : ng ≤ cg) (r1 : Rd w ai (ints x.items)) (r2 : Rd w al (pairs x.senders)) (r3 : Rd w ag (ints x.getters)) (ok : chnOk x) (ht : 0 ≤ t ∧ t < 6) (hv : 0 ≤ v ∧ v ≤ 99) (hns : t ∉ x.senders.map (·.1)) (hng : t ∉ x.getters) :
  Calls Try.prog 76 #[.agg #[.int .i64 x.room, .slice ai ni ci, .slice al nl cl, .slice ag ng cg, .bool x.closed], .int .i64 t, .int .i64 v] w (sendQ x t v w) := by
 have h6 := ok.2.2.2.2.1.1
 have hi4 := ok.2.1
 have OK := xH1 ok
 obtain ⟨room, its, snd, gts, clo⟩ := x
 dsimp only at h1 h2 h3 r1 r2 r3 h6 hi4 hns hng ⊢
 rw [List.length_append, List.length_map] at h6
 have L1 := xH1 h1
 have L2 := xH1 h2
 have L3 := xH1 h3
 have b1 : ni ≤ 4 := by have := OK.out.1.2; dsimp only at this hi4; omega
 have b2 : nl ≤ 6 ∧ ng ≤ 6 := by omega
 clear h1 h2 h3 h6 hi4 ok
 have F0 := ((Fr.start w).alloc #[.int .i64 room, .slice ai ni ci, .slice al nl cl, .slice ag ng cg, .bool clo] 92).alloc #[.int .i64 0, .slice none 0 0, .slice none 0 0, .slice none 0 0, .bool false] 92
 simp only [World.size_alloc] at F0
 go_enter Try.func76, Try.ntmps76
 go_upto_region 1 with fail
 obtain ⟨W0, hw, F⟩ := F0.named
 rw [← hw]
 clear hw F0
 have cs := F.c5 1 rfl
 go_wp2_with fail
 refine (specChanValid_ok ⟨room, its, snd, gts, clo⟩ ai al ag ni ci nl cl ng cg _ L1.out L2.out L3.out k3 (F.rd r1) (F.rd r2) (F.rd r3) OK.out).mono ?_
 rintro e w1 ⟨rfl, hb⟩
 replace F := F.call hb
 replace cs := F.c5 1 rfl
 clear hb
 cases clo
 rotate_left
 ·go_upto_region 2 with fail
  obtain ⟨W, hw, F1⟩ := F.named
  rw [← hw]
  clear hw F cs
  have F2 := F1.row (xA1) (owns_empty W 3 1)
  have cz := F2.c5 1 rfl
  have F3 := F2.set5 1 rfl (.int .i64 0) (.slice none 0 0) (.slice none 0 0) (.slice none 0 0) (.bool false)
  clear F1 F2
  go_wp2
  exact bodyPost_ret (v := .tuple #[.agg #[.int .i64 0, .slice none 0 0, .slice none 0 0, .slice none 0 0, .bool false], .slice (some ⟨W.heap.size, 0, none⟩) 0 0, .bool false, .bool false]) (by simp [results, Try.results76, go_sem, F3.c5 1 rfl]) rfl ⟨⟨0, [], [], [], false⟩, nilV, nilV, nilV, ⟨some ⟨W.heap.size, 0, none⟩, 0, 0⟩, [], false, false, by simp [chnSend], rfl, (((F3.sub (l' := [.row (some ⟨W.heap.size, 0, none⟩) 0 0 3 1 []]) (.cons_cons _ (by simp))).nil 3 1).nil 155 2).nil 3 1⟩
 go_wp2_with fail
 refine (specThread_ok t _ ht).mono ?_
 rintro e wz ⟨rfl, hw⟩
 obtain rfl := hw
 go_wp2_with fail
 refine (specValue_ok v _ hv).mono ?_
 rintro e wz ⟨rfl, hw⟩
 obtain rfl := hw
 go_wp2_with fail
 refine (specWaits5_no ⟨room, its, snd, gts, false⟩ ai al ag ni ci nl cl ng cg t _ L2.out L3.out (F.rd r2) (F.rd r3) OK.out hns hng).mono ?_
 rintro e w1 ⟨rfl, hb⟩
 replace F := F.call hb
 replace cs := F.c5 1 rfl
 clear hb
 go_wp2_with fail
 refine (specChanCopy_fr ⟨room, its, snd, gts, false⟩ ai al ag ni ci nl cl ng cg _ L1.out L2.out L3.out (by omega) (by omega) (by omega) (F.rd r1) (F.rd r2) (F.rd r3)).mono ?_
 rintro e w1 ⟨bi, bs, bg, di, ds, dg, rfl, FC⟩
 have F2 : Fr w (w1.alloc _) (_ :: .row bi ni di 3 1 (ints its) :: .row bs nl ds 155 2 (pairs snd) :: .row bg ng dg 3 1 (ints gts) :: .blk (w.heap.size + 1) #[.int .i64 0, .slice none 0 0, .slice none 0 0, .slice none 0 0, .bool false] 92 :: .blk w.heap.size #[.int .i64 room, .slice ai ni ci, .slice al nl cl, .slice ag ng cg, .bool false] 92 :: []) := (F.join FC).alloc #[.int .i64 room, .slice bi ni di, .slice bs nl ds, .slice bg ng dg, .bool false] 92
 clear F FC cs
 go_upto_region 4 with fail
 obtain ⟨W, hw, F⟩ := F2.named
 rw [← hw]
 clear hw F2
 obtain ⟨bO, hbO⟩ : ∃ b, b = w1.heap.size := ⟨_, rfl⟩
 rw [← hbO] at F ⊢
 clear hbO
 have cs := F.c5 5 rfl
 obtain _ | ⟨g, gs⟩ := gts
 rotate_left
 ·have g0 : (0 : Int) < (ng : Int) := by have := L3.out; rw [List.length_cons] at this; omega
  have hgl : gs.length = ng - 1 := by have := L3.out; rw [List.length_cons] at this; omega
  obtain ⟨A, hsl, hrt, -⟩ := tail1 (n := ng) (c := cg) (xs := ints gs) r3 (by rw [List.length_map]; omega) k3
  obtain ⟨bb, oo, rfl, hcg⟩ := r3.int (by simp)
  have c0 : w.cell? ⟨bb, oo, none⟩ = some (.int .i64 g) := by have := hcg 0 (by simp); simpa using this
  have hbb : bb < w.heap.size := r3.far (by simp) bb rfl
  have HRT := xH1 (hrt _ (F.rd r3))
  clear hcg hrt
  have F3 := F.row (xA1) (owns_empty W 3 1)
  have csE := F3.c5 6 rfl
  go_upto_region 6 with (at_builtin; refine F3.appI 0 rfl _ _ rfl rfl rfl gs rfl hgl (HRT.out.below (xA1)) (by omega) ?_; intro a3 c3 W3 F4; rw [Nat.zero_add] at F4; have co := F4.c5 1 rfl; have F5 := F4.set 1 rfl 3 (.slice a3 (ng - 1) c3))
  obtain ⟨W5, hw, F6⟩ := F5.named
  rw [← hw]
  clear hw F5 F4 F3 F cs csE co hsl g0
  have Fx := F6.sub (l' := [.blk bO #[.int .i64 room, .slice bi ni di, .slice bs nl ds, .slice a3 (ng - 1) c3, .bool false] 92, .blk w.heap.size #[.int .i64 room, .slice ai ni ci, .slice al nl cl, .slice (some ⟨bb, oo, none⟩) ng cg, .bool false] 92]) (.cons _ (.cons_cons _ (.cons _ (.cons _ (.cons _ (.cons _ (.cons_cons _ (.refl _))))))))
  have hx : ∀ k ∈ [w.heap.size + 1], w.heap.size ≤ k ∧ k ∉ foots [.blk bO #[.int .i64 room, .slice bi ni di, .slice bs nl ds, .slice a3 (ng - 1) c3, .bool false] 92, .blk w.heap.size #[.int .i64 room, .slice ai ni ci, .slice al nl cl, .slice (some ⟨bb, oo, none⟩) ng cg, .bool false] 92] := fun k hk => by
   obtain rfl := xS1 hk
   have h1 := F6.ne 1 5 rfl rfl (by decide)
   simp [foots, It.foot]
   omega
  replace c0 := F6.bel |> fun hb => keepB hb hbb c0
  have hlt : w.heap.size + 1 < W5.heap.size := (F6.blk 5 rfl).lt
  have kR := F6.blk 5 rfl
  apply wp_rst 7 6 (w.heap.size + 1) [.k _, .k _, .k _, .k _, .k _, .r (rqI W5.heap.size 3 1 #[.int .i64 g]), .r (rqK (w.heap.size + 1) 92 #[.int .i64 room, .slice bi ni di, .slice bs nl ds, .slice a3 (ng - 1) c3, .bool false])] ⟨stI, stKb, trivial⟩ ⟨.inr (stIT hlt), .inl rfl, trivial⟩ ?s1 ?e1
  case s1 =>
   repeat' apply And.intro
   all_goals first | trivial | (intro ρ w1 L hG hny hfr hd; obtain ⟨fc, ff⟩ := fcff hfr; have f10 := hfr (.tmp 10) rfl; have f3 := hfr (.tmp 3) rfl; have f6 := hfr (.tmp 6) rfl; have F1 := Fx.other hG.2 hx; have co := F1.c5 0 rfl; have cs := F1.c5 1 rfl; have c0 := cell_touch hG.2 c0 (by show bb ∉ [w.heap.size + 1]; simp; omega))
   exact rs0; exact rs0; exact rs1; exact rs1; exact rs1; exact rsI
   ·exact gsS rfl hG (hny 6 _ rfl (by rfl)) kR f6 hd.1 rfl rfl rfl (fun _ _ h => h)
  intro w2 hT
  refine rk_end ?_
  intro x5 hx5 x6 hx6
  obtain ⟨gz, rfl, kz, hgz⟩ := hx5
  have F7 := Fr.over 5 F6 rfl hT hx6
  have F8 := F7.add (i := .row (some ⟨gz, 0, none⟩) 1 1 3 1 [.int .i64 g]) (owns_of_blk kz (by have := F6.bel.size; omega) rfl (by decide)) (fun q hq hm => by
   have e : q = gz := by simpa [It.foot, rowOf] using hq
   have := (F6.inside q hm).2
   omega)
  clear hx6 kz F7 Fx hx c0 kR
  have cz := F8.c5 6 rfl
  go_wp2
  exact bodyPost_ret (v := .tuple #[.agg #[.int .i64 room, .slice bi ni di, .slice bs nl ds, .slice a3 (ng - 1) c3, .bool false], .slice (some ⟨gz, 0, none⟩) 1 1, .bool true, .bool true]) (by simp [results, Try.results76, go_sem, cz]) rfl ⟨⟨room, its, snd, gs, false⟩, ⟨bi, ni, di⟩, ⟨bs, nl, ds⟩, ⟨a3, ng - 1, c3⟩, ⟨some ⟨gz, 0, none⟩, 1, 1⟩, [g], true, true, by simp [chnSend], rfl, (((F8.pull 1 rfl).pull 4 rfl).pull 4 rfl).sub (.cons_cons _ (.cons_cons _ (.cons_cons _ (.cons_cons _ (List.nil_sublist _)))))⟩
 obtain rfl : 0 = ng := L3.out
 by_cases hlt : (its.length : Int) < room
 rotate_left
 ·have HLT := xH1 hlt
  have dl : decide ((ni : Int) < room) = false := decide_eq_false (by rw [← L1.out]; exact hlt)
  clear hlt
  have co := F.c5 0 rfl
  have F3 := F.alloc #[.int .i64 t, .int .i64 v] 155
  go_upto_region 10 with fail
  go_upto_region 11 with (at_builtin; refine F3.appL 3 rfl _ _ rfl rfl rfl [(t, v)] rfl rfl (Rd.of_blk (F3.blk 0 rfl)) (by omega) ?_; intro a3 c3 W3 F4; have co := F4.c5 1 rfl; have F5 := F4.set 1 rfl 2 (.slice a3 (nl + 1) c3))
  obtain ⟨W5, hw, F6⟩ := F5.named
  rw [← hw]
  clear hw F5 F4 F3 F cs co dl
  have co := F6.c5 1 rfl
  have F7 := F6.row (xA1) (owns_empty W5 3 1)
  have cz := F7.c5 6 rfl
  have F8 := F7.set5 6 rfl (.int .i64 room) (.slice bi ni di) (.slice a3 (nl + 1) c3) (.slice bg 0 dg) (.bool false)
  clear F7
  go_wp2
  have F9 := ((F8.pull 5 rfl).pull 5 rfl).pull 5 rfl
  rw [← pairs_app] at F9
  exact bodyPost_ret (v := .tuple #[.agg #[.int .i64 room, .slice bi ni di, .slice a3 (nl + 1) c3, .slice bg 0 dg, .bool false], .slice (some ⟨W5.heap.size, 0, none⟩) 0 0, .bool false, .bool true]) (by simp [results, Try.results76, go_sem, F8.c5 6 rfl]) rfl ⟨⟨room, its, snd ++ [(t, v)], [], false⟩, ⟨bi, ni, di⟩, ⟨a3, nl + 1, c3⟩, ⟨bg, 0, dg⟩, ⟨some ⟨W5.heap.size, 0, none⟩, 0, 0⟩, [], false, true, by simp only [chnSend]; rw [if_neg (by simp), if_neg (by have := HLT.out; omega)]; rfl, rfl, F9.sub (.cons_cons _ (.cons_cons _ (.cons_cons _ (.cons_cons _ (List.nil_sublist _)))))⟩
 have HLT := xH1 hlt
 have dl : decide ((ni : Int) < room) = true := decide_eq_true (by rw [← L1.out]; exact hlt)
 clear hlt
 have co := F.c5 0 rfl
 have F3 := F.alloc #[.int .i64 v] 3
 go_upto_region 8 with fail
 go_upto_region 9 with (at_builtin; refine F3.appI 2 rfl _ _ rfl rfl rfl [v] rfl rfl (Rd.of_blk (F3.blk 0 rfl)) (by omega) ?_; intro a3 c3 W3 F4; have co := F4.c5 1 rfl; have F5 := F4.set 1 rfl 1 (.slice a3 (ni + 1) c3))
 obtain ⟨W5, hw, F6⟩ := F5.named
 rw [← hw]
 clear hw F5 F4 F3 F cs co dl
 have co := F6.c5 1 rfl
 have F7 := F6.row (xA1) (owns_empty W5 3 1)
 have cz := F7.c5 6 rfl
 have F8 := F7.set5 6 rfl (.int .i64 room) (.slice a3 (ni + 1) c3) (.slice bs nl ds) (.slice bg 0 dg) (.bool false)
 clear F7
 go_wp2
 have F9 := ((F8.pull 5 rfl).pull 5 rfl).pull 5 rfl
 rw [← ints_app] at F9
 exact bodyPost_ret (v := .tuple #[.agg #[.int .i64 room, .slice a3 (ni + 1) c3, .slice bs nl ds, .slice bg 0 dg, .bool false], .slice (some ⟨W5.heap.size, 0, none⟩) 0 0, .bool true, .bool true]) (by simp [results, Try.results76, go_sem, F8.c5 6 rfl]) rfl ⟨⟨room, its ++ [v], snd, [], false⟩, ⟨a3, ni + 1, c3⟩, ⟨bs, nl, ds⟩, ⟨bg, 0, dg⟩, ⟨some ⟨W5.heap.size, 0, none⟩, 0, 0⟩, [], true, true, by simp only [chnSend]; rw [if_neg (by simp), if_pos HLT.out]; rfl, rfl, F9.sub (.cons_cons _ (.cons_cons _ (.cons_cons _ (.cons_cons _ (List.nil_sublist _)))))⟩
def closeQ (x : ChnD) (w : World) (e : Ending) (w' : World) : Prop := ∃ (y : ChnD) (s1 s2 s3 u : SlV) (l : List Int) (b : Bool), chnClose x = (if b = true then some (y, l) else none) ∧ e = .returned (.tuple #[chnV y s1 s2 s3, u.val, .bool b]) ∧ Fr w w' [.row s1.a s1.n s1.c 3 1 (ints y.items), .row s2.a s2.n s2.c 155 2 (pairs y.senders), .row s3.a s3.n s3.c 3 1 (ints y.getters), .row u.a u.n u.c 3 1 (ints l)]
theorem specCloseChan_fr (x : ChnD) (ai al ag : Option Addr) (ni ci nl cl ng cg : Nat) (w : World) (h1 : x.items.length = ni) (h2 : x.senders.length = nl) (h3 : x.getters.length = ng) (k3 : ng ≤ cg) (r1 : Rd w ai (ints x.items)) (r2 : Rd w al (pairs x.senders)) (r3 : Rd w ag (ints x.getters)) (ok : chnOk x) :
  Calls Try.prog 78 #[.agg #[.int .i64 x.room, .slice ai ni ci, .slice al nl cl, .slice ag ng cg, .bool x.closed]] w (closeQ x w) := by
 have h6 := ok.2.2.2.2.1.1
 have hi4 := ok.2.1
 have OK := xH1 ok
 obtain ⟨room, its, snd, gts, clo⟩ := x
 dsimp only at h1 h2 h3 r1 r2 r3 h6 hi4 ⊢
 rw [List.length_append, List.length_map] at h6
 have L1 := xH1 h1
 have L2 := xH1 h2
 have L3 := xH1 h3
 have b1 : ni ≤ 4 := by have := OK.out.1.2; dsimp only at this hi4; omega
 have b2 : nl ≤ 6 ∧ ng ≤ 6 := by omega
 clear h1 h2 h3 h6 hi4 ok
 have F0 := ((Fr.start w).alloc #[.int .i64 room, .slice ai ni ci, .slice al nl cl, .slice ag ng cg, .bool clo] 92).alloc #[.int .i64 0, .slice none 0 0, .slice none 0 0, .slice none 0 0, .bool false] 92
 simp only [World.size_alloc] at F0
 go_enter Try.func78, Try.ntmps78
 go_upto_region 1 with fail
 obtain ⟨W0, hw, F⟩ := F0.named
 rw [← hw]
 clear hw F0
 have cs := F.c5 1 rfl
 go_wp2_with fail
 refine (specChanValid_ok ⟨room, its, snd, gts, clo⟩ ai al ag ni ci nl cl ng cg _ L1.out L2.out L3.out k3 (F.rd r1) (F.rd r2) (F.rd r3) OK.out).mono ?_
 rintro e w1 ⟨rfl, hb⟩
 replace F := F.call hb
 replace cs := F.c5 1 rfl
 clear hb
 cases clo
 rotate_left
 ·go_upto_region 2 with fail
  obtain ⟨W, hw, F1⟩ := F.named
  rw [← hw]
  clear hw F cs
  have F2 := F1.row (xA1) (owns_empty W 3 1)
  have cz := F2.c5 1 rfl
  have F3 := F2.set5 1 rfl (.int .i64 0) (.slice none 0 0) (.slice none 0 0) (.slice none 0 0) (.bool false)
  clear F1 F2
  go_wp2
  exact bodyPost_ret (v := .tuple #[.agg #[.int .i64 0, .slice none 0 0, .slice none 0 0, .slice none 0 0, .bool false], .slice (some ⟨W.heap.size, 0, none⟩) 0 0, .bool false]) (by simp [results, Try.results78, go_sem, F3.c5 1 rfl]) rfl ⟨⟨0, [], [], [], false⟩, nilV, nilV, nilV, ⟨some ⟨W.heap.size, 0, none⟩, 0, 0⟩, [], false, by simp [chnClose], rfl, (((F3.sub (l' := [.row (some ⟨W.heap.size, 0, none⟩) 0 0 3 1 []]) (.cons_cons _ (by simp))).nil 3 1).nil 155 2).nil 3 1⟩
 obtain _ | ⟨s0, ss⟩ := snd
 rotate_left
 ·have d0 : (0 : Int) < (nl : Int) := by have := L2.out; rw [List.length_cons] at this; omega
  go_upto_region 2 with fail
  obtain ⟨W, hw, F1⟩ := F.named
  rw [← hw]
  clear hw F cs
  have F2 := F1.row (xA1) (owns_empty W 3 1)
  have cz := F2.c5 1 rfl
  have F3 := F2.set5 1 rfl (.int .i64 0) (.slice none 0 0) (.slice none 0 0) (.slice none 0 0) (.bool false)
  clear F1 F2
  go_wp2
  exact bodyPost_ret (v := .tuple #[.agg #[.int .i64 0, .slice none 0 0, .slice none 0 0, .slice none 0 0, .bool false], .slice (some ⟨W.heap.size, 0, none⟩) 0 0, .bool false]) (by simp [results, Try.results78, go_sem, F3.c5 1 rfl]) rfl ⟨⟨0, [], [], [], false⟩, nilV, nilV, nilV, ⟨some ⟨W.heap.size, 0, none⟩, 0, 0⟩, [], false, by simp [chnClose], rfl, (((F3.sub (l' := [.row (some ⟨W.heap.size, 0, none⟩) 0 0 3 1 []]) (.cons_cons _ (by simp))).nil 3 1).nil 155 2).nil 3 1⟩
 obtain rfl : 0 = nl := L2.out
 go_wp2_with fail
 refine (specChanCopy_fr ⟨room, its, [], gts, false⟩ ai al ag ni ci 0 cl ng cg _ L1.out L2.out L3.out (by omega) (by omega) (by omega) (F.rd r1) (F.rd r2) (F.rd r3)).mono ?_
 rintro e w1 ⟨bi, bs, bg, di, ds, dg, rfl, FC⟩
 have F2 : Fr w (w1.alloc _) (_ :: .row bi ni di 3 1 (ints its) :: .row bs 0 ds 155 2 (pairs []) :: .row bg ng dg 3 1 (ints gts) :: .blk (w.heap.size + 1) #[.int .i64 0, .slice none 0 0, .slice none 0 0, .slice none 0 0, .bool false] 92 :: .blk w.heap.size #[.int .i64 room, .slice ai ni ci, .slice al 0 cl, .slice ag ng cg, .bool false] 92 :: []) := (F.join FC).alloc #[.int .i64 room, .slice bi ni di, .slice bs 0 ds, .slice bg ng dg, .bool false] 92
 clear F FC cs
 go_upto_region 4 with fail
 obtain ⟨W, hw, F⟩ := F2.named
 rw [← hw]
 clear hw F2
 obtain ⟨bO, hbO⟩ : ∃ b, b = w1.heap.size := ⟨_, rfl⟩
 rw [← hbO] at F ⊢
 clear hbO
 have cs := F.c5 5 rfl
 have co := F.c5 0 rfl
 have F2 := F.set 0 rfl 4 (.bool true)
 go_upto_region 5 with fail
 obtain ⟨W2, hw, F3⟩ := F2.named
 rw [← hw]
 clear hw F2 F co cs
 have F4 := F3.row (xA1) (owns_empty W2 3 1)
 have co := F4.c5 1 rfl
 have F5 := F4.set 1 rfl 3 (.slice (some ⟨W2.heap.size, 0, none⟩) 0 0)
 go_upto_region 6 with fail
 obtain ⟨W5, hw, F6⟩ := F5.named
 rw [← hw]
 clear hw F5 F4 F3 co
 obtain ⟨gE, hgE⟩ : ∃ g, g = W2.heap.size := ⟨_, rfl⟩
 rw [← hgE] at F6 ⊢
 clear hgE
 have Fx := F6.sub (l' := [.blk bO #[.int .i64 room, .slice bi ni di, .slice bs 0 ds, .slice (some ⟨gE, 0, none⟩) 0 0, .bool true] 92, .blk w.heap.size #[.int .i64 room, .slice ai ni ci, .slice al 0 cl, .slice ag ng cg, .bool false] 92]) (.cons _ (.cons_cons _ (.cons _ (.cons _ (.cons _ (.cons _ (.cons_cons _ (.refl _))))))))
 have hx : ∀ k ∈ [w.heap.size + 1], w.heap.size ≤ k ∧ k ∉ foots [.blk bO #[.int .i64 room, .slice bi ni di, .slice bs 0 ds, .slice (some ⟨gE, 0, none⟩) 0 0, .bool true] 92, .blk w.heap.size #[.int .i64 room, .slice ai ni ci, .slice al 0 cl, .slice ag ng cg, .bool false] 92] := fun k hk => by
  obtain rfl := xS1 hk
  have h1 := F6.ne 1 5 rfl rfl (by decide)
  simp [foots, It.foot]
  omega
 have kR := F6.blk 5 rfl
 have hlt := kR.lt
 apply wp_rst 6 5 (w.heap.size + 1) [.k _, .r (rqE W5.heap.size 3 1), .k _, .k _, .r (rqA W5.heap.size 3 1 ng (ints gts)), .r (rqK (w.heap.size + 1) 92 #[.int .i64 room, .slice bi ni di, .slice bs 0 ds, .slice (some ⟨gE, 0, none⟩) 0 0, .bool true])] ⟨stE, stA, stKb, trivial⟩ ⟨.inr (stET hlt), .inr (stAT hlt), .inl rfl, trivial⟩ ?s2 ?e2
 case s2 =>
  repeat' apply And.intro
  all_goals first | trivial | (intro ρ w1 L hG hny hfr hd; obtain ⟨fc, ff⟩ := fcff hfr; have f5 := hfr (.tmp 5) rfl; have f1 := hfr (.tmp 1) rfl; have f2 := hfr (.tmp 2) rfl; have F1 := Fx.other hG.2 hx; have co := F1.c5 0 rfl; have cs := F1.c5 1 rfl)
  exact rs0; exact rsE; exact rs0; exact rs1
  ·have d : ρ (.tmp _) = _ := hd.2.1
   exact gsA hG _ _ 23 rfl Try.underlying23 info_int rfl (by decide) hd.1 d (by rw [List.length_map, L3.out, Nat.mul_one]) (F1.rd r3) (ints_one gts) (by omega) (by decide) (fun _ _ h => h)
  ·exact gsS rfl hG (hny 5 _ rfl (by rfl)) kR f2 hd.1 rfl rfl rfl (fun _ _ h => h)
 intro w2 hT
 refine rk_end ?_
 intro x1 hx1 x4 hx4 x5 hx5
 obtain ⟨a4, c4, rfl, o4, -⟩ := hx4
 have F7 := Fr.over 5 F6 rfl hT hx5
 have F8 := F7.add (i := .row a4 ng c4 3 1 (ints gts)) (owns_mono o4 F6.bel.size) (fun q hq hm => by
  have := (owns_row o4 q (by simpa [It.foot] using hq)).1
  have := (F6.inside q hm).2
  omega)
 clear hx1 hx5 o4 F7 Fx hx kR
 have cz := F8.c5 6 rfl
 go_wp2
 exact bodyPost_ret (v := .tuple #[.agg #[.int .i64 room, .slice bi ni di, .slice bs 0 ds, .slice (some ⟨gE, 0, none⟩) 0 0, .bool true], .slice a4 ng c4, .bool true]) (by simp [results, Try.results78, go_sem, cz]) rfl ⟨⟨room, its, [], [], true⟩, ⟨bi, ni, di⟩, ⟨bs, 0, ds⟩, ⟨some ⟨gE, 0, none⟩, 0, 0⟩, ⟨a4, ng, c4⟩, gts, true, by simp [chnClose], rfl, (((F8.pull 1 rfl).pull 4 rfl).pull 4 rfl).sub (.cons_cons _ (.cons_cons _ (.cons_cons _ (.cons_cons _ (List.nil_sublist _)))))⟩
def getQ (x : ChnD) (t : Int) (w : World) (e : Ending) (w' : World) : Prop := ∃ (y : ChnD) (s1 s2 s3 u : SlV) (l : List Int) (val how : Int), chnGet x t = (y, val, how, l) ∧ e = .returned (.tuple #[chnV y s1 s2 s3, .int .i64 val, .int .i64 how, u.val, .bool true]) ∧ Fr w w' [.row s1.a s1.n s1.c 3 1 (ints y.items), .row s2.a s2.n s2.c 155 2 (pairs y.senders), .row s3.a s3.n s3.c 3 1 (ints y.getters), .row u.a u.n u.c 3 1 (ints l)]
theorem specGetChan_fr (x : ChnD) (ai al ag : Option Addr) (ni ci nl cl ng cg : Nat) (t : Int) (w : World) (h1 : x.items.length = ni) (h2 : x.senders.length = nl) (h3 : x.getters.length = ng) (k2 : nl ≤ cl) (k3 : ng ≤ cg) (r1 : Rd w ai (ints x.items)) (r2 : Rd w al (pairs x.senders)) (r3 : Rd w ag (ints x.getters)) (ok : chnOk x) (ht : 0 ≤ t ∧ t < 6) (hns : t ∉ x.senders.map (·.1)) (hng : t ∉ x.getters) :
  Calls Try.prog 77 #[.agg #[.int .i64 x.room, .slice ai ni ci, .slice al nl cl, .slice ag ng cg, .bool x.closed], .int .i64 t] w (getQ x t w) := by
 have h6 := ok.2.2.2.2.1.1
 have hi4 := ok.2.1
 have OK := xH1 ok
 obtain ⟨room, its, snd, gts, clo⟩ := x
 dsimp only at h1 h2 h3 r1 r2 r3 h6 hi4 hns hng ⊢
 rw [List.length_append, List.length_map] at h6
 have L1 := xH1 h1
 have L2 := xH1 h2
 have L3 := xH1 h3
 have b1 : ni ≤ 4 := by have := OK.out.1.2; dsimp only at this hi4; omega
 have b2 : nl ≤ 6 ∧ ng ≤ 6 := by omega
 clear h1 h2 h3 h6 hi4 ok
 have F0 := ((Fr.start w).alloc #[.int .i64 room, .slice ai ni ci, .slice al nl cl, .slice ag ng cg, .bool clo] 92).alloc #[.int .i64 0, .slice none 0 0, .slice none 0 0, .slice none 0 0, .bool false] 92
 simp only [World.size_alloc] at F0
 go_enter Try.func77, Try.ntmps77
 go_upto_region 1 with fail
 obtain ⟨W0, hw, F1⟩ := F0.named
 rw [← hw]
 clear hw F0
 have F2 := F1.row (xA1) (owns_empty W0 3 1)
 clear F1
 go_upto_region 2 with fail
 obtain ⟨W1, hw, F⟩ := F2.named
 rw [← hw]
 clear hw F2
 obtain ⟨gE, hgE⟩ : ∃ g, g = W0.heap.size := ⟨_, rfl⟩
 rw [← hgE] at F ⊢
 clear hgE
 have cs := F.c5 2 rfl
 go_wp2_with fail
 refine (specChanValid_ok ⟨room, its, snd, gts, clo⟩ ai al ag ni ci nl cl ng cg _ L1.out L2.out L3.out k3 (F.rd r1) (F.rd r2) (F.rd r3) OK.out).mono ?_
 rintro e w1 ⟨rfl, hb⟩
 replace F := F.call hb
 replace cs := F.c5 2 rfl
 clear hb
 go_wp2_with fail
 refine (specThread_ok t _ ht).mono ?_
 rintro e wz ⟨rfl, hw⟩
 obtain rfl := hw
 go_wp2_with fail
 refine (specWaits5_no ⟨room, its, snd, gts, clo⟩ ai al ag ni ci nl cl ng cg t _ L2.out L3.out (F.rd r2) (F.rd r3) OK.out hns hng).mono ?_
 rintro e w1 ⟨rfl, hb⟩
 replace F := F.call hb
 replace cs := F.c5 2 rfl
 clear hb
 go_wp2_with fail
 refine (specChanCopy_fr ⟨room, its, snd, gts, clo⟩ ai al ag ni ci nl cl ng cg _ L1.out L2.out L3.out (by omega) (by omega) (by omega) (F.rd r1) (F.rd r2) (F.rd r3)).mono ?_
 rintro e w1 ⟨bi, bs, bg, di, ds, dg, rfl, FC⟩
 have F2 : Fr w (w1.alloc _) (_ :: .row bi ni di 3 1 (ints its) :: .row bs nl ds 155 2 (pairs snd) :: .row bg ng dg 3 1 (ints gts) :: .row (some ⟨gE, 0, none⟩) 0 0 3 1 (ints []) :: .blk (w.heap.size + 1) #[.int .i64 0, .slice none 0 0, .slice none 0 0, .slice none 0 0, .bool false] 92 :: .blk w.heap.size #[.int .i64 room, .slice ai ni ci, .slice al nl cl, .slice ag ng cg, .bool clo] 92 :: []) := (F.join FC).alloc #[.int .i64 room, .slice bi ni di, .slice bs nl ds, .slice bg ng dg, .bool clo] 92
 clear F FC cs
 go_upto_region 5 with fail
 obtain ⟨W, hw, F⟩ := F2.named
 rw [← hw]
 clear hw F2
 obtain ⟨bO, hbO⟩ : ∃ b, b = w1.heap.size := ⟨_, rfl⟩
 rw [← hbO] at F ⊢
 clear hbO
 have co := F.c5 0 rfl
 have cs := F.c5 6 rfl
 obtain _ | ⟨⟨st, sv⟩, ss⟩ := snd
 ·obtain rfl : 0 = nl := L2.out
  have hI : ni ≤ 6 := by omega
  obtain _ | ⟨i0, is⟩ := its
  ·obtain rfl : 0 = ni := L1.out
   cases clo
   ·go_upto_region 15 with fail
    clear cs
    have F3 := F.alloc #[.int .i64 t] 3
    go_upto_region 16 with (at_builtin; refine F3.appI 4 rfl _ _ rfl rfl rfl [t] rfl rfl (Rd.of_blk (F3.blk 0 rfl)) (by omega) ?_; intro a3 c3 W3 F4; have co := F4.c5 1 rfl; have F5 := F4.set 1 rfl 3 (.slice a3 (ng + 1) c3))
    obtain ⟨W5, hw, F6⟩ := F5.named
    rw [← hw]
    clear hw F5 F4 F3 F co
    have co := F6.c5 1 rfl
    have cz := F6.c5 6 rfl
    have F8 := F6.set5 6 rfl (.int .i64 room) (.slice bi 0 di) (.slice bs 0 ds) (.slice a3 (ng + 1) c3) (.bool false)
    clear F6
    go_wp2
    have F9 := F8.sub (l' := [.row bi 0 di 3 1 (ints []), .row bs 0 ds 155 2 (pairs []), .row a3 (ng + 1) c3 3 1 (ints gts ++ ints [t]), .row (some ⟨gE, 0, none⟩) 0 0 3 1 (ints [])]) (.cons _ (.cons _ (.cons_cons _ (.cons_cons _ (.cons_cons _ (.cons_cons _ (List.nil_sublist _)))))))
    rw [← ints_app] at F9
    exact bodyPost_ret (v := .tuple #[.agg #[.int .i64 room, .slice bi 0 di, .slice bs 0 ds, .slice a3 (ng + 1) c3, .bool false], .int .i64 0, .int .i64 0, .slice (some ⟨gE, 0, none⟩) 0 0, .bool true]) (by simp [results, Try.results77, go_sem, F8.c5 6 rfl]) rfl ⟨⟨room, [], [], gts ++ [t], false⟩, ⟨bi, 0, di⟩, ⟨bs, 0, ds⟩, ⟨a3, ng + 1, c3⟩, ⟨some ⟨gE, 0, none⟩, 0, 0⟩, [], 0, 0, by simp [chnGet], rfl, F9⟩
   ·have cz := F.c5 5 rfl
    have F8 := F.set5 5 rfl (.int .i64 room) (.slice bi 0 di) (.slice bs 0 ds) (.slice bg ng dg) (.bool true)
    clear F
    go_wp2
    exact bodyPost_ret (v := .tuple #[.agg #[.int .i64 room, .slice bi 0 di, .slice bs 0 ds, .slice bg ng dg, .bool true], .int .i64 0, .int .i64 2, .slice (some ⟨gE, 0, none⟩) 0 0, .bool true]) (by simp [results, Try.results77, go_sem, F8.c5 5 rfl]) rfl ⟨⟨room, [], [], gts, true⟩, ⟨bi, 0, di⟩, ⟨bs, 0, ds⟩, ⟨bg, ng, dg⟩, ⟨some ⟨gE, 0, none⟩, 0, 0⟩, [], 0, 2, by simp [chnGet], rfl, F8.sub (.cons _ (.cons_cons _ (.cons_cons _ (.cons_cons _ (.cons_cons _ (List.nil_sublist _))))))⟩
  have HV : Hid (chnGet ⟨room, i0 :: is, [], gts, clo⟩ t = (⟨room, is, [], gts, clo⟩, i0, 1, [])) := xH1 (by simp [chnGet])
  go_upto_region 10 with fail
  clear co cs
  obtain ⟨Ss, hSs⟩ : ∃ z : List (Int × Int), z = [] := ⟨_, rfl⟩
  obtain ⟨El, hEl⟩ : ∃ z : List Int, z = [] := ⟨_, rfl⟩
  replace HV : Hid (chnGet ⟨room, i0 :: is, [], gts, clo⟩ t = (⟨room, is, Ss, gts, clo⟩, i0, 1, El)) := xH1 (by rw [hSs, hEl]; exact HV.out)
  replace F : Fr w W (.blk bO #[.int .i64 room, .slice bi ni di, .slice bs 0 ds, .slice bg ng dg, .bool clo] 92 :: .row bi ni di 3 1 (ints (i0 :: is)) :: .row bs 0 ds 155 2 (pairs Ss) :: .row bg ng dg 3 1 (ints gts) :: .row (some ⟨gE, 0, none⟩) 0 0 3 1 (ints El) :: .blk (w.heap.size + 1) #[.int .i64 0, .slice none 0 0, .slice none 0 0, .slice none 0 0, .bool false] 92 :: .blk w.heap.size #[.int .i64 room, .slice ai ni ci, .slice al 0 cl, .slice ag ng cg, .bool clo] 92 :: []) := by rw [hSs, hEl]; exact F
  clear hSs hEl
  have hnI : ni = is.length + 1 := by have := (F.own 1 rfl).1; simp only [ints, List.length_map, List.length_cons] at this; omega
  have i0p : (0 : Int) < ((ni : Nat) : Int) := by omega
  have hln : is.length = ni - 1 := by omega
  obtain ⟨B, hsl2, hrt, -⟩ := tail1 (n := ni) (c := di) (xs := ints is) (F.rdRow 1 rfl) (by rw [List.length_map]; omega) (owns_cap (F.own 1 rfl)).1
  obtain ⟨bI, oI, rfl, -⟩ := (F.rdRow 1 rfl).int (by simp)
  have hbI := F.dis (k := 1) (k' := 5) (by decide) rfl rfl bI (by simp [It.foot, rowOf])
  have HRT2 := xH1 (hrt _ (F.rdRow 1 rfl))
  have HN := xH1 hnI
  clear hrt hnI
  have F3 := F.row (xA1) (owns_empty W 3 1)
  go_upto_region 12 with (at_builtin; refine F3.appI 0 rfl _ _ rfl rfl rfl is rfl hln (HRT2.out.below (xA1)) (by omega) ?_; intro a5 c5 W9 F4; rw [Nat.zero_add] at F4; have co := F4.c5 1 rfl; have F5 := F4.set 1 rfl 1 (.slice a5 (ni - 1) c5))
  obtain ⟨WA, hw, F6⟩ := F5.named
  rw [← hw]
  clear hw F5 F4 F3 F co hsl2 i0p
  have c0 := (F6.rdRow 2 rfl).int0
  have Fx := F6.sub (l' := [.blk bO #[.int .i64 room, .slice a5 (ni - 1) c5, .slice bs 0 ds, .slice bg ng dg, .bool clo] 92]) (.cons _ (.cons_cons _ (.cons _ (.cons _ (.cons _ (.cons _ (.cons _ (.cons _ (.refl _)))))))))
  have hx : ∀ k ∈ [w.heap.size + 1], w.heap.size ≤ k ∧ k ∉ foots [.blk bO #[.int .i64 room, .slice a5 (ni - 1) c5, .slice bs 0 ds, .slice bg ng dg, .bool clo] 92] := fun k hk => by
   obtain rfl := xS1 hk
   have h1 := F6.ne 1 6 rfl rfl (by decide)
   simp [foots, It.foot]
   omega
  have kR := F6.blk 6 rfl
  have hlt := kR.lt
  apply wp_rst 8 5 (w.heap.size + 1) [.k _, .k _, .k _, .k _, .k _, .r (rqK (w.heap.size + 1) 92 #[.int .i64 room, .slice a5 (ni - 1) c5, .slice bs 0 ds, .slice bg ng dg, .bool clo]), .k _, .k _] ⟨stKb, trivial⟩ ⟨.inl rfl, trivial⟩ ?s1 ?e1
  case s1 =>
   repeat' apply And.intro
   all_goals first | trivial | (intro ρ w1 L hG hny hfr hd; obtain ⟨fc, ff⟩ := fcff hfr; have f10 := hfr (.tmp 10) rfl; have f11 := hfr (.tmp 11) rfl; have f9 := hfr (.tmp 9) rfl; have f4 := hfr (.tmp 4) rfl; have F1 := Fx.other hG.2 hx; have co := F1.c5 0 rfl; have c0 := cell_touch hG.2 c0 hbI)
   exact rs0; exact rs0; exact rs1; exact rs1; exact rs0
   ·exact gsS rfl hG (hny 5 _ rfl (by rfl)) kR f4 hd.1 rfl rfl rfl (fun _ _ h => h)
   exact rs1; exact rs0
  intro w2 hT
  refine rk_end ?_
  intro x5 hx5
  have F7 := Fr.over 6 F6 rfl hT hx5
  clear hx5 F6 Fx hx kR c0
  have cz := F7.c5 6 rfl
  go_wp2
  exact bodyPost_ret (v := .tuple #[.agg #[.int .i64 room, .slice a5 (ni - 1) c5, .slice bs 0 ds, .slice bg ng dg, .bool clo], .int .i64 i0, .int .i64 1, .slice (some ⟨gE, 0, none⟩) 0 0, .bool true]) (by simp [results, Try.results77, go_sem, cz]) rfl ⟨⟨room, is, Ss, gts, clo⟩, ⟨a5, ni - 1, c5⟩, ⟨bs, 0, ds⟩, ⟨bg, ng, dg⟩, ⟨(some ⟨gE, 0, none⟩), 0, 0⟩, El, i0, 1, HV.out, rfl, F7.sub (.cons_cons _ (.cons _ (.cons _ (.cons_cons _ (.cons_cons _ (.cons_cons _ (List.nil_sublist _)))))))⟩
 ·have s0 : (0 : Int) < (nl : Int) := by have := L2.out; rw [List.length_cons] at this; omega
  have hsl0 : ss.length = nl - 1 := by have := L2.out; rw [List.length_cons] at this; omega
  obtain ⟨A, hsl, hrt, -⟩ := tail2 (n := nl) (c := cl) (xs := pairs ss) r2 (by rw [pairs_len]; omega) k2
  obtain ⟨bb, oo, rfl, hcg⟩ := r2.pair (by simp)
  have hc := hcg 0 (by simp)
  have c0 : w.cell? ⟨bb, oo, none⟩ = some (.int .i64 st) := by have := hc.1; simpa using this
  have c1 : w.cell? ⟨bb, oo + 1, none⟩ = some (.int .i64 sv) := by have := hc.2; simpa using this
  have HRT := xH1 (hrt _ r2)
  clear hc hcg hrt
  have HC0 := xH1 c0
  replace c1 := keepc F.bel c1
  clear c0
  have F3 := F.alloc #[.int .i64 sv] 3
  go_upto_region 8 with (at_builtin; refine F3.appI 2 rfl _ _ rfl rfl rfl [sv] rfl rfl (Rd.of_blk (F3.blk 0 rfl)) (by omega) ?_; intro a3 c3 W3 F4; have F5 := F4.sub (.cons _ (.refl _)))
  obtain ⟨W5, hw, F6⟩ := F5.named
  rw [← hw]
  clear hw F5 F4 F3 F co cs c1
  have F3 := F6.row (xA1) (owns_empty W5 155 2)
  have cs := F3.c5 7 rfl
  go_upto_region 9 with (at_builtin; refine F3.appL 0 rfl _ _ rfl rfl rfl ss rfl hsl0 (HRT.out.below F3.bel) (by omega) ?_; intro a4 c4 W4 F4; rw [Nat.zero_add] at F4; have co := F4.c5 1 rfl; have F5 := F4.set 1 rfl 2 (.slice a4 (nl - 1) c4))
  obtain ⟨W7, hw, F7⟩ := F5.named
  rw [← hw]
  clear hw F5 F4 F3 F6 co cs
  have c0 := keepc F7.bel HC0.out
  have cs := F7.c5 7 rfl
  have F3 := F7.alloc #[.int .i64 st] 3
  go_upto_region 10 with (at_builtin; refine F3.appI 6 rfl _ _ rfl rfl rfl [st] rfl rfl (Rd.of_blk (F3.blk 0 rfl)) (by decide) ?_; intro a6 c6 W6 F4; have F5 := ((F4.sub (.cons _ (.cons_cons _ (.cons_cons _ (.cons_cons _ (.cons _ (.refl _))))))).pull 2 rfl).pull 2 rfl)
  obtain ⟨W8, hw, F8⟩ := F5.named
  rw [← hw]
  clear hw F5 F4 F3 F7 c0 cs hsl s0
  obtain ⟨i0, is, his⟩ : ∃ i0 is, its ++ [sv] = i0 :: is := by cases its with | nil => exact ⟨_, _, rfl⟩ | cons a l => exact ⟨_, _, rfl⟩
  have HV : Hid (chnGet ⟨room, its, (st, sv) :: ss, gts, clo⟩ t = (⟨room, is, ss, gts, clo⟩, i0, 1, [st])) := xH1 (by cases its with | nil => simp at his; obtain ⟨rfl, rfl⟩ := his; rfl | cons a l => simp at his; obtain ⟨rfl, rfl⟩ := his; rfl)
  have F : Fr w W8 (.blk bO #[.int .i64 room, .slice bi ni di, .slice a4 (nl - 1) c4, .slice bg ng dg, .bool clo] 92 :: .row a3 (ni + 1) c3 3 1 (ints (i0 :: is)) :: .row a4 (nl - 1) c4 155 2 (pairs ss) :: .row bg ng dg 3 1 (ints gts) :: .row a6 1 c6 3 1 (ints [st]) :: .blk (w.heap.size + 1) #[.int .i64 0, .slice none 0 0, .slice none 0 0, .slice none 0 0, .bool false] 92 :: .blk w.heap.size #[.int .i64 room, .slice ai ni ci, .slice (some ⟨bb, oo, none⟩) nl cl, .slice ag ng cg, .bool clo] 92 :: []) := by rw [← his, ints_app]; exact F8
  clear his F8
  obtain ⟨nI, hnI0⟩ : ∃ z, z = ni + 1 := ⟨_, rfl⟩
  rw [← hnI0] at F ⊢
  have hI : nI ≤ 6 := by omega
  clear hnI0
  have hnI : nI = is.length + 1 := by have := (F.own 1 rfl).1; simp only [ints, List.length_map, List.length_cons] at this; omega
  have i0p : (0 : Int) < ((nI : Nat) : Int) := by omega
  have hln : is.length = nI - 1 := by omega
  obtain ⟨B, hsl2, hrt, -⟩ := tail1 (n := nI) (c := c3) (xs := ints is) (F.rdRow 1 rfl) (by rw [List.length_map]; omega) (owns_cap (F.own 1 rfl)).1
  obtain ⟨bI, oI, rfl, -⟩ := (F.rdRow 1 rfl).int (by simp)
  have hbI := F.dis (k := 1) (k' := 5) (by decide) rfl rfl bI (by simp [It.foot, rowOf])
  have HRT2 := xH1 (hrt _ (F.rdRow 1 rfl))
  have HN := xH1 hnI
  clear hrt hnI
  have F3 := F.row (xA1) (owns_empty W8 3 1)
  go_upto_region 12 with (at_builtin; refine F3.appI 0 rfl _ _ rfl rfl rfl is rfl hln (HRT2.out.below (xA1)) (by omega) ?_; intro a5 c5 W9 F4; rw [Nat.zero_add] at F4; have co := F4.c5 1 rfl; have F5 := F4.set 1 rfl 1 (.slice a5 (nI - 1) c5))
  obtain ⟨WA, hw, F6⟩ := F5.named
  rw [← hw]
  clear hw F5 F4 F3 F co hsl2 i0p
  have c0 := (F6.rdRow 2 rfl).int0
  have Fx := F6.sub (l' := [.blk bO #[.int .i64 room, .slice a5 (nI - 1) c5, .slice a4 (nl - 1) c4, .slice bg ng dg, .bool clo] 92]) (.cons _ (.cons_cons _ (.cons _ (.cons _ (.cons _ (.cons _ (.cons _ (.cons _ (.refl _)))))))))
  have hx : ∀ k ∈ [w.heap.size + 1], w.heap.size ≤ k ∧ k ∉ foots [.blk bO #[.int .i64 room, .slice a5 (nI - 1) c5, .slice a4 (nl - 1) c4, .slice bg ng dg, .bool clo] 92] := fun k hk => by
   obtain rfl := xS1 hk
   have h1 := F6.ne 1 6 rfl rfl (by decide)
   simp [foots, It.foot]
   omega
  have kR := F6.blk 6 rfl
  have hlt := kR.lt
  apply wp_rst 8 5 (w.heap.size + 1) [.k _, .k _, .k _, .k _, .k _, .r (rqK (w.heap.size + 1) 92 #[.int .i64 room, .slice a5 (nI - 1) c5, .slice a4 (nl - 1) c4, .slice bg ng dg, .bool clo]), .k _, .k _] ⟨stKb, trivial⟩ ⟨.inl rfl, trivial⟩ ?s2 ?e2
  case s2 =>
   repeat' apply And.intro
   all_goals first | trivial | (intro ρ w1 L hG hny hfr hd; obtain ⟨fc, ff⟩ := fcff hfr; have f10 := hfr (.tmp 10) rfl; have f11 := hfr (.tmp 11) rfl; have f9 := hfr (.tmp 9) rfl; have f4 := hfr (.tmp 4) rfl; have F1 := Fx.other hG.2 hx; have co := F1.c5 0 rfl; have c0 := cell_touch hG.2 c0 hbI)
   exact rs0; exact rs0; exact rs1; exact rs1; exact rs0
   ·exact gsS rfl hG (hny 5 _ rfl (by rfl)) kR f4 hd.1 rfl rfl rfl (fun _ _ h => h)
   exact rs1; exact rs0
  intro w2 hT
  refine rk_end ?_
  intro x5 hx5
  have F7 := Fr.over 6 F6 rfl hT hx5
  clear hx5 F6 Fx hx kR c0
  have cz := F7.c5 6 rfl
  go_wp2
  exact bodyPost_ret (v := .tuple #[.agg #[.int .i64 room, .slice a5 (nI - 1) c5, .slice a4 (nl - 1) c4, .slice bg ng dg, .bool clo], .int .i64 i0, .int .i64 1, .slice a6 1 c6, .bool true]) (by simp [results, Try.results77, go_sem, cz]) rfl ⟨⟨room, is, ss, gts, clo⟩, ⟨a5, nI - 1, c5⟩, ⟨a4, (nl - 1), c4⟩, ⟨bg, ng, dg⟩, ⟨a6, 1, c6⟩, [st], i0, 1, HV.out, rfl, F7.sub (.cons_cons _ (.cons _ (.cons _ (.cons_cons _ (.cons_cons _ (.cons_cons _ (List.nil_sublist _)))))))⟩
end Go.Proofs.Ytfpgijihiifogaa
