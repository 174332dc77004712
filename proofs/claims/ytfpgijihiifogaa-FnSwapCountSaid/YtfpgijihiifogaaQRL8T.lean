/- Part of a proof: RL8T. -/
import Derived.Test.YtfpgijihiifogaaQPL8
set_option maxRecDepth 100000
set_option maxHeartbeats 16000000
namespace Go.Proofs.Ytfpgijihiifogaa
open Go.RowKit
theorem ints_set (xs : List Int) (j : Nat) (x : Int) : (ints xs).set j (.int .i64 x) = ints (xs.set j x) := by
 unfold ints; rw [List.map_set]
theorem l8Trace_any (a : Option Addr) (n c : Nat) (bs : List Int) (w : World) (hC : Code13 w a n c bs) :
  Calls Try.prog 9 #[.slice a n c] w fun e w' => ∃ (v : PV) (vs : List Value) (p : Pg) (a2 : Option Addr) (m c2 : Nat) (xs : List Int), e = .returned (.tuple #[.agg #[.slice v.s v.ns v.cs, .slice v.g v.ng v.cg, .slice v.b v.nb v.cb, .slice v.r v.nr v.cr, .slice v.t v.nt v.ct], .slice a2 m c2]) ∧ Own w' w.heap.size v vs p 10 ∧ w'.ownsRow w.heap.size 3 1 (.slice a2 m c2) m (ints xs) ∧ m ≤ 16 ∧ Below w.heap.size w w' := by
 have b0 : Below w.heap.size w (w.alloc (.cells #[.slice none 0 0, .slice none 0 0, .slice none 0 0, .slice none 0 0, .slice none 0 0] 31)) := xA1
 have k0 : Blk (w.alloc (.cells #[.slice none 0 0, .slice none 0 0, .slice none 0 0, .slice none 0 0, .slice none 0 0] 31)) w.heap.size #[.slice none 0 0, .slice none 0 0, .slice none 0 0, .slice none 0 0, .slice none 0 0] 31 := Blk.new _ _ _
 have s0 : (w.alloc (.cells #[.slice none 0 0, .slice none 0 0, .slice none 0 0, .slice none 0 0, .slice none 0 0] 31)).heap.size = w.heap.size + 1 := by simp
 have hC0 := hC.below b0
 go_enter Try.func9, Try.ntmps9
 go_wp2_with fail
 refine hC0.open.mono ?_
 rintro e w1 ⟨rfl, n', bs', r1, b1, s1⟩
 have k1 := k0.below b1
 have HB1 := xH1 (b0.trans (b1.mono b0.size))
 rw [s0] at r1 s1
 have HS1 := xH1 s1
 clear b0 k0 b1 hC hC0 s1
 rw [s0]
 clear s0
 go_wp2_with fail
 refine (l6Draw_any (w.heap.size + 1) a n' c bs' 0 w1 r1 (by omega)).mono ?_
 rintro e w2 ⟨v, vs, p, pos', rfl, o2, f2, z2, r2, hp2, g2⟩
 have s1 := HS1.out
 have s2 := g2.size
 have k2 := k1.grown g2 (by simp)
 have HB2 := xH1 (HB1.out.trans (below_of_grown g2 (by omega) (fun i e => by cases e; omega)))
 have b3 : Below w2.heap.size w2 (w2.alloc (.cells #[.slice v.s v.ns v.cs, .slice v.g v.ng v.cg, .slice v.b v.nb v.cb, .slice v.r v.nr v.cr, .slice v.t v.nt v.ct] 31)) := xA1
 have o3 : Own (w2.alloc (.cells #[.slice v.s v.ns v.cs, .slice v.g v.ng v.cg, .slice v.b v.nb v.cb, .slice v.r v.nr v.cr, .slice v.t v.nt v.ct] 31)) (w.heap.size + 2) v vs p 9 := Own.below ⟨o2, fun q hq => by have := f2 q hq; omega, z2⟩ b3
 have kp : Blk (w2.alloc (.cells #[.slice v.s v.ns v.cs, .slice v.g v.ng v.cg, .slice v.b v.nb v.cb, .slice v.r v.nr v.cr, .slice v.t v.nt v.ct] 31)) w2.heap.size #[.slice v.s v.ns v.cs, .slice v.g v.ng v.cg, .slice v.b v.nb v.cb, .slice v.r v.nr v.cr, .slice v.t v.nt v.ct] 31 := Blk.new _ _ _
 have r3 := r2.below b3
 have k3 := k2.below b3
 replace HB2 := xH1 (HB2.out.trans (b3.mono (by omega)))
 have s3 : w.heap.size + 2 < (w2.alloc (.cells #[.slice v.s v.ns v.cs, .slice v.g v.ng v.cg, .slice v.b v.nb v.cb, .slice v.r v.nr v.cr, .slice v.t v.nt v.ct] 31)).heap.size := by simp; omega
 have s4 : w.heap.size + 2 ≤ w2.heap.size := by omega
 clear r1 g2 k1 r2 k2 o2 f2 z2 HS1 b3 s1 s2 HB1
 go_upto_region 3 with fail
 generalize w2.alloc (.cells #[.slice v.s v.ns v.cs, .slice v.g v.ng v.cg, .slice v.b v.nb v.cb, .slice v.r v.nr v.cr, .slice v.t v.nt v.ct] 31) = W at *
 have HW := xH1 (And.intro o3 (And.intro r3 k3))
 clear o3 r3 k3
 refine wp_region_inv 10 (l8I W (w.heap.size + 1) a n' c bs' pos' (.agg #[.slice v.s v.ns v.cs, .slice v.g v.ng v.cg, .slice v.b v.nb v.cb, .slice v.r v.nr v.cr, .slice v.t v.nt v.ct])) l8I.cong (fun σ => l8I.start HW.out.2.1 σ) ?_ ?_
 ·refine ⟨?_, ?_, ?_, ?_, ?_, ?_, ?_, ?_, ?_, ?_, trivial⟩ <;> intro ρ w3 L hI hw hny ho
  ·have c := kp.grown hI.gr (by simp; omega)
   have y0 := c.cell 0 rfl
   have y1 := c.cell 1 rfl
   have y2 := c.cell 2 rfl
   have y3 := c.cell 3 rfl
   have y4 := c.cell 4 rfl
   have d : ρ (.tmp 5) = _ := ho (.tmp 5) rfl
   exact gives_val (by go_simp <;> rfl) (hI.val 0 _ (.inl ⟨rfl, rfl⟩))
  ·have d : ρ (.tmp 4) = _ := ho (.tmp 4) rfl
   exact gives_val (by go_simp <;> rfl) (hI.val 1 _ (.inr (.inl ⟨rfl, rfl⟩)))
  ·obtain ⟨pos1, hr, hp, hk⟩ := hI.ch (by omega) (hny 2 _ rfl rfl) (hny 3 _ rfl rfl)
   have d : ρ (.tmp 15) = _ := hI.k1 (hw 1 (by decide))
   have df : ρ (.func 14) = _ := ho (.func 14) rfl
   exact gives_call (by go_simp <;> rfl) ((l8Choices_any _ _ _ _ _ _ _ hr (by omega)).mono fun e w' h => by
    obtain ⟨a2, m, c2, xs, pos2, rfl, h1, h2, h3, h4, h5⟩ := h
    exact ⟨_, rfl, hk a2 m c2 xs pos2 w' h1 h2 h3 h4 h5⟩)
  ·obtain ⟨hG, a2, m, c2, xs, d2, hd, hl, hm, hk⟩ := hI.run (hw 2 (by decide)) (hny 3 _ rfl rfl)
   replace d2 : ρ (.tmp 16) = _ := d2
   have d0 : ρ (.tmp 14) = _ := hI.k0 (hw 0 (by decide))
   have df : ρ (.func 13) = _ := ho (.func 13) rfl
   have o4 := HW.out.1.gr hG (by omega)
   have hc : Calls Try.prog 13 #[.agg #[.slice v.s v.ns v.cs, .slice v.g v.ng v.cg, .slice v.b v.nb v.cb, .slice v.r v.nr v.cr, .slice v.t v.nt v.ct], .slice a2 m c2] w3 (chQ w3 m) := by
    cases hv : progValid p with
    | true => exact specChoices_ok v p a2 m c2 xs w3 o4.own.rd hv hd hl (by omega)
    | false => exact specChoices_no v p a2 m c2 w3 o4.own.rd (o4.small (by omega)) hv
   exact gives_call (by go_simp <;> rfl) (hc.mono hk)
  ·obtain ⟨q, d, hk⟩ := hI.mv (hw 3 (by decide))
   replace d : ρ (.tmp 17) = _ := d
   exact gives_val (by go_simp <;> rfl) hk
  ·obtain ⟨q, d, hk, -⟩ := hI.ex (hw 4 (by decide))
   replace d : ρ (.tmp 13) = .tuple #[.agg q.cs, .bool q.b] := d
   exact gives_val (by go_simp <;> rfl) hk
  ·obtain ⟨q, d, -, hk⟩ := hI.ex (hw 4 (by decide))
   replace d : ρ (.tmp 13) = .tuple #[.agg q.cs, .bool q.b] := d
   exact gives_val (by go_simp <;> rfl) hk
  ·exact gives_val (by go_simp <;> rfl) (hI.al (hny 8 _ rfl rfl))
  ·obtain ⟨q, g, d5, d7, kb, hk⟩ := hI.st (by omega) (hw 5 (by decide)) (hw 7 (by decide)) (hny 8 _ rfl rfl)
   replace d5 : ρ (.tmp 18) = _ := d5
   replace d7 : ρ (.tmp 6) = _ := d7
   refine gives_skip (w' := w3.setRow g q.cs) ?_ (hk _)
   simp [execOp, d5, d7, Instr.storeAt, Instr.sureAddr, run_storeVar_row (P := Try.prog) w3 g 46 46 z10 q.cs kb (show (Try.prog.info? 46).map (·.size) = some 10 by kernel_rfl) rfl (by simp [RunV.cs, Value.oneCell'])]
  ·exact gives_val rfl (hI.val 9 _ (.inr (.inr rfl)))
 intro vs3 w3 hlen hI
 obtain ⟨x0, x1, x2, x3, x4, x5, x6, x7, x8, x9, rfl⟩ : ∃ x0 x1 x2 x3 x4 x5 x6 x7 x8 x9, vs3 = [x0, x1, x2, x3, x4, x5, x6, x7, x8, x9] := by
  match vs3, hlen with
  | [x0, x1, x2, x3, x4, x5, x6, x7, x8, x9], _ => exact ⟨_, _, _, _, _, _, _, _, _, _, rfl⟩
 obtain ⟨-, -, ⟨pos1, r4, hp4, -⟩, G, -, -, -, -, q, q3, -, -, -, q7⟩ := hI
 obtain ⟨-, ow, hm⟩ := q3 rfl
 obtain ⟨g, hg, e7, kg⟩ := q7 rfl
 obtain rfl : x7 = .pointer (some ⟨g, 0, none⟩) := e7
 replace kg : Blk w3 g q.cs 46 := kg
 have yt := kg.cell 9 rfl
 clear q3 q7
 obtain ⟨qs, qa, qm, qc, tr, qb⟩ := q
 replace yt : w3.cell? ⟨g, 9, none⟩ = some (.slice qa qm qc) := yt
 replace ow : w3.ownsRow W.heap.size 3 1 (.slice qa qm qc) qm (ints tr) := ow
 replace hm : qm ≤ 16 := hm
 have HS := xH1 (And.intro hg kg)
 clear kg
 refine rk_end ?_
 by_cases hm0 : 0 < qm
 ·go_wp2_with fail
  refine (pick_some (w.heap.size + 1) a n' c bs' pos1 6 w3 r4 (by omega) (by omega)).mono ?_
  rintro e w4 ⟨x, rfl, hx, r5, g5, -⟩
  have ow5 := owns_grown ow g5 (fun q h1 h3 => by have := (owns_row ow q h1).1; cases h3; omega)
  have G5 := grown_trans G g5
  have yt5 := ((HS.out.2).grown g5 (by have := HS.out.1; simp; omega)).cell 9 rfl
  clear r4 g5 ow G yt
  by_cases hx0 : x = 0
  ·have t0 : ((x : Int) == 0) = true := by rw [hx0]; rfl
   clear hx0 hx
   go_wp2_with fail
   refine (pick_some (w.heap.size + 1) a n' c bs' _ qm w4 r5 (by omega) (by omega)).mono ?_
   rintro e w5 ⟨j, rfl, hj, r6, g6, -⟩
   have hj' : j < qm := by omega
   have b6 : Below w5.heap.size w5 (w5.alloc (.cells (ints [0, 1, 2, 5, -1]).toArray 3)) := xA1
   have kn : Blk (w5.alloc (.cells (ints [0, 1, 2, 5, -1]).toArray 3)) w5.heap.size (ints [0, 1, 2, 5, -1]).toArray 3 := Blk.new _ _ _
   have ow6 := owns_below (owns_grown ow5 g6 (fun q h1 h3 => by have := (owns_row ow5 q h1).1; cases h3; omega)) b6
   have G6 := grown_trans (grown_trans G5 g6) (grown_of_below b6 _)
   have r7 := r6.below b6
   have s6 := G5.size
   have s7 := g6.size
   clear r5 r6 g6 ow5 G5 b6 t0 yt5 hj
   go_wp2_with fail
   refine (num_blk (w.heap.size + 1) a n' c bs' _ 5 [0, 1, 2, 5, -1] _ r7 (by omega) rfl (by omega) (by omega) w5.heap.size _ kn rfl (by omega)).mono ?_
   rintro e w6 ⟨z, rfl, -, r8, g8⟩
   have ow8 := owns_grown ow6 g8 (fun q h1 h3 => by have := (owns_row ow6 q h1).1; cases h3; omega)
   have G8 := grown_trans G6 g8
   obtain ⟨qg, rfl, hqg, -⟩ := owns_at ow8 hm0
   obtain ⟨cur, e1, -⟩ := owns_cells ow8
   have rd8 := Rd.of_owns ow8
   have hlt : (ints tr).length = qm := by have := ow8.1; simpa using this
   have hl : tr.length = qm := by simpa using hlt
   obtain ⟨b9, o9', e9, g9'⟩ := rd8.int (by omega)
   cases e9
   have y9 := g9' j (by omega)
   rw [Nat.zero_add] at y9
   have f9 : w6.frozen? ⟨qg, j, none⟩ = false := by simp [World.frozen?, e1]
   have S9 := owns_store ow8 j (.int .i64 z) (ints_set tr j z)
   have r9 := r8.gr S9.2 (fun k e => by cases e; omega)
   have G9 := grown_new G8 S9.2 (fun k e => by cases e; omega)
   have ow9 := S9.1
   clear S9 r8 g8 ow8 ow6 G6 G8 r7 kn e1 g9' rd8
   go_upto_region 7 with fail
   generalize w6.setCell ⟨qg, j, none⟩ (.int .i64 z) = w7 at *
   have kq := kp.grown G9 (by simp; omega)
   have y0 := kq.cell 0 rfl
   have y1 := kq.cell 1 rfl
   have y2 := kq.cell 2 rfl
   have y3 := kq.cell 3 rfl
   have y4 := kq.cell 4 rfl
   have o4 := HW.out.1.gr G9 (by omega)
   go_wp2_with fail
   refine (l6Wrong_any (w.heap.size + 1) a n' c bs' _ v p 9 w7 r9 (by omega) o4.own.rd o4.few (by omega)).mono ?_
   rintro e w9 ⟨v', vs', p', pos9, rfl, o9, f9', z9, -, -, g9⟩
   have k9 := (HW.out.2.2.grown G9 (by simp)).grown g9 (by simp)
   have HO9 := xH1 (owns_grown ow9 g9 (fun q h1 h3 => by have := (owns_row ow9 q h1).1; cases h3; omega))
   have G10 := grown_trans G9 g9
   have s10 := G9.size
   have s11 := g9.size
   have HB9 := xH1 (HB2.out.trans (below_of_grown G10 (by omega) (fun i e => by cases e; omega)))
   have HO : Hid (Own w9 (w.heap.size + 1) v' vs' p' 10) := xH1 ⟨o9, fun q hq => by have := f9' q hq; omega, z9⟩
   clear kq y0 y1 y2 y3 y4 o4 o9 f9' z9 g9 G10 G9 r9 ow9
   have y0 := k9.cell 0 rfl
   have x20 := k9.fz 0
   have y1 := k9.cell 1 rfl
   have x21 := k9.fz 1
   have y2 := k9.cell 2 rfl
   have x22 := k9.fz 2
   have y3 := k9.cell 3 rfl
   have x23 := k9.fz 3
   have y4 := k9.cell 4 rfl
   have x24 := k9.fz 4
   have HZ5 : Hid (w9.grownBy (((((w9.setCell ⟨w.heap.size, 0, none⟩ (.slice v'.s v'.ns v'.cs)).setCell ⟨w.heap.size, 1, none⟩ (.slice v'.g v'.ng v'.cg)).setCell ⟨w.heap.size, 2, none⟩ (.slice v'.b v'.nb v'.cb)).setCell ⟨w.heap.size, 3, none⟩ (.slice v'.r v'.nr v'.cr)).setCell ⟨w.heap.size, 4, none⟩ (.slice v'.t v'.nt v'.ct)) (some w.heap.size)) := xH1 (grown_trans (grown_trans (grown_trans (grown_trans (grown_set _ _ _ _) (grown_set _ _ _ _)) (grown_set _ _ _ _)) (grown_set _ _ _ _)) (grown_set _ _ _ _))
   go_wp2
   refine bodyPost_ret (v := .tuple #[.agg #[.slice v'.s v'.ns v'.cs, .slice v'.g v'.ng v'.cg, .slice v'.b v'.nb v'.cb, .slice v'.r v'.nr v'.cr, .slice v'.t v'.nt v'.ct], .slice (some ⟨qg, 0, none⟩) qm qc]) (by simp [results, Try.results9, go_sem, y0, y1, y2, y3, y4]) rfl ⟨v', vs', p', (some ⟨qg, 0, none⟩), qm, qc, tr.set j z, rfl, (HO.out.gr HZ5.out (by omega)).mono (by omega), owns_mono (owns_grown HO9.out HZ5.out (fun q h1 h3 => by have := (owns_row HO9.out q h1).1; cases h3; omega)) (by omega), hm, HB9.out.trans (below_of_grown HZ5.out (by omega) (fun i e => by cases e; omega))⟩
  ·have t0 : ((x : Int) == 0) = false := by simpa using hx0
   clear hx0 hx
   go_upto_region 7 with fail
   have kq := kp.grown G5 (by simp; omega)
   have y0 := kq.cell 0 rfl
   have y1 := kq.cell 1 rfl
   have y2 := kq.cell 2 rfl
   have y3 := kq.cell 3 rfl
   have y4 := kq.cell 4 rfl
   have o4 := HW.out.1.gr G5 (by omega)
   go_wp2_with fail
   refine (l6Wrong_any (w.heap.size + 1) a n' c bs' _ v p 9 w4 r5 (by omega) o4.own.rd o4.few (by omega)).mono ?_
   rintro e w9 ⟨v', vs', p', pos9, rfl, o9, f9', z9, -, -, g9⟩
   have k9 := (HW.out.2.2.grown G5 (by simp)).grown g9 (by simp)
   have HO9 := xH1 (owns_grown ow5 g9 (fun q h1 h3 => by have := (owns_row ow5 q h1).1; cases h3; omega))
   have G10 := grown_trans G5 g9
   have s10 := G5.size
   have s11 := g9.size
   have HB9 := xH1 (HB2.out.trans (below_of_grown G10 (by omega) (fun i e => by cases e; omega)))
   have HO : Hid (Own w9 (w.heap.size + 1) v' vs' p' 10) := xH1 ⟨o9, fun q hq => by have := f9' q hq; omega, z9⟩
   clear kq y0 y1 y2 y3 y4 o4 o9 f9' z9 g9 G10 G5 r5 ow5
   have y0 := k9.cell 0 rfl
   have x20 := k9.fz 0
   have y1 := k9.cell 1 rfl
   have x21 := k9.fz 1
   have y2 := k9.cell 2 rfl
   have x22 := k9.fz 2
   have y3 := k9.cell 3 rfl
   have x23 := k9.fz 3
   have y4 := k9.cell 4 rfl
   have x24 := k9.fz 4
   have HZ5 : Hid (w9.grownBy (((((w9.setCell ⟨w.heap.size, 0, none⟩ (.slice v'.s v'.ns v'.cs)).setCell ⟨w.heap.size, 1, none⟩ (.slice v'.g v'.ng v'.cg)).setCell ⟨w.heap.size, 2, none⟩ (.slice v'.b v'.nb v'.cb)).setCell ⟨w.heap.size, 3, none⟩ (.slice v'.r v'.nr v'.cr)).setCell ⟨w.heap.size, 4, none⟩ (.slice v'.t v'.nt v'.ct)) (some w.heap.size)) := xH1 (grown_trans (grown_trans (grown_trans (grown_trans (grown_set _ _ _ _) (grown_set _ _ _ _)) (grown_set _ _ _ _)) (grown_set _ _ _ _)) (grown_set _ _ _ _))
   go_wp2
   refine bodyPost_ret (v := .tuple #[.agg #[.slice v'.s v'.ns v'.cs, .slice v'.g v'.ng v'.cg, .slice v'.b v'.nb v'.cb, .slice v'.r v'.nr v'.cr, .slice v'.t v'.nt v'.ct], .slice qa qm qc]) (by simp [results, Try.results9, go_sem, y0, y1, y2, y3, y4]) rfl ⟨v', vs', p', qa, qm, qc, tr, rfl, (HO.out.gr HZ5.out (by omega)).mono (by omega), owns_mono (owns_grown HO9.out HZ5.out (fun q h1 h3 => by have := (owns_row HO9.out q h1).1; cases h3; omega)) (by omega), hm, HB9.out.trans (below_of_grown HZ5.out (by omega) (fun i e => by cases e; omega))⟩
 ·have hm1 : qm = 0 := by omega
  subst hm1
  go_upto_region 7 with fail
  have kq := kp.grown G (by simp; omega)
  have y0 := kq.cell 0 rfl
  have y1 := kq.cell 1 rfl
  have y2 := kq.cell 2 rfl
  have y3 := kq.cell 3 rfl
  have y4 := kq.cell 4 rfl
  have o4 := HW.out.1.gr G (by omega)
  go_wp2_with fail
  refine (l6Wrong_any (w.heap.size + 1) a n' c bs' _ v p 9 w3 r4 (by omega) o4.own.rd o4.few (by omega)).mono ?_
  rintro e w9 ⟨v', vs', p', pos9, rfl, o9, f9', z9, -, -, g9⟩
  have k9 := (HW.out.2.2.grown G (by simp)).grown g9 (by simp)
  have HO9 := xH1 (owns_grown ow g9 (fun q h1 h3 => by have := (owns_row ow q h1).1; cases h3; omega))
  have G10 := grown_trans G g9
  have s10 := G.size
  have s11 := g9.size
  have HB9 := xH1 (HB2.out.trans (below_of_grown G10 (by omega) (fun i e => by cases e; omega)))
  have HO : Hid (Own w9 (w.heap.size + 1) v' vs' p' 10) := xH1 ⟨o9, fun q hq => by have := f9' q hq; omega, z9⟩
  clear kq y0 y1 y2 y3 y4 o4 o9 f9' z9 g9 G10 G r4 ow
  have y0 := k9.cell 0 rfl
  have x20 := k9.fz 0
  have y1 := k9.cell 1 rfl
  have x21 := k9.fz 1
  have y2 := k9.cell 2 rfl
  have x22 := k9.fz 2
  have y3 := k9.cell 3 rfl
  have x23 := k9.fz 3
  have y4 := k9.cell 4 rfl
  have x24 := k9.fz 4
  have HZ5 : Hid (w9.grownBy (((((w9.setCell ⟨w.heap.size, 0, none⟩ (.slice v'.s v'.ns v'.cs)).setCell ⟨w.heap.size, 1, none⟩ (.slice v'.g v'.ng v'.cg)).setCell ⟨w.heap.size, 2, none⟩ (.slice v'.b v'.nb v'.cb)).setCell ⟨w.heap.size, 3, none⟩ (.slice v'.r v'.nr v'.cr)).setCell ⟨w.heap.size, 4, none⟩ (.slice v'.t v'.nt v'.ct)) (some w.heap.size)) := xH1 (grown_trans (grown_trans (grown_trans (grown_trans (grown_set _ _ _ _) (grown_set _ _ _ _)) (grown_set _ _ _ _)) (grown_set _ _ _ _)) (grown_set _ _ _ _))
  go_wp2
  refine bodyPost_ret (v := .tuple #[.agg #[.slice v'.s v'.ns v'.cs, .slice v'.g v'.ng v'.cg, .slice v'.b v'.nb v'.cb, .slice v'.r v'.nr v'.cr, .slice v'.t v'.nt v'.ct], .slice qa 0 qc]) (by simp [results, Try.results9, go_sem, y0, y1, y2, y3, y4]) rfl ⟨v', vs', p', qa, 0, qc, tr, rfl, (HO.out.gr HZ5.out (by omega)).mono (by omega), owns_mono (owns_grown HO9.out HZ5.out (fun q h1 h3 => by have := (owns_row HO9.out q h1).1; cases h3; omega)) (by omega), hm, HB9.out.trans (below_of_grown HZ5.out (by omega) (fun i e => by cases e; omega))⟩
end Go.Proofs.Ytfpgijihiifogaa
