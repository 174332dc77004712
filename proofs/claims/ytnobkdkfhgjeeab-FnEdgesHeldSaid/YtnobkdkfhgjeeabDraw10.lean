/- Draws of programs of semaphores: l10Prog, l10Draw. -/
import Derived.Test.YtnobkdkfhgjeeabBaseD
import Derived.Deep.Cut
namespace Go.Proofs.Ytnobkdkfhgjeeab
open Go.RowKit

set_option maxRecDepth 100000 in
set_option maxHeartbeats 8000000 in
theorem l10Prog_any (R : Nat) (a : Option Addr) (n c : Nat) (bs : List Int) (pos : Int) (w : World) (h : Rdr w R a n c bs pos) (hp : pos ≤ 1099511600000) :
    Calls Try.prog 103 #[.pointer (some ⟨R, 0, none⟩)] w fun e w' => ∃ (v : PV) (vs : List Value) (p : Pg) (pos' : Int), e = .returned (.agg #[.slice v.s v.ns v.cs, .slice v.g v.ng v.cg, .slice v.b v.nb v.cb, .slice v.r v.nr v.cr, .slice v.t v.nt v.ct]) ∧ OwnP w' v vs p.cells ∧ (∀ q ∈ fpP v vs, w.heap.size ≤ q) ∧ Few p 9 ∧ Rdr w' R a n c bs pos' ∧ pos' ≤ pos + 100 ∧ w.grownBy w' (some R) := by
  have hRw := h.lt
  have bR : Below w.heap.size w (w.alloc (.cells #[.slice none 0 0, .slice none 0 0, .slice none 0 0, .slice none 0 0, .slice none 0 0] 26)) := (Below.refl _ _).alloc (Nat.le_refl _) _
  have kR : Blk (w.alloc (.cells #[.slice none 0 0, .slice none 0 0, .slice none 0 0, .slice none 0 0, .slice none 0 0] 26)) w.heap.size #[.slice none 0 0, .slice none 0 0, .slice none 0 0, .slice none 0 0, .slice none 0 0] 26 := Blk.new _ _ _
  have h0 := h.below bR
  have G0 := grown_of_below bR (some R)
  have sR : (w.alloc (.cells #[.slice none 0 0, .slice none 0 0, .slice none 0 0, .slice none 0 0, .slice none 0 0] 26)).heap.size = w.heap.size + 1 := by simp
  clear bR h
  go_enter Try.func103, Try.ntmps103
  go_wp2_with fail
  refine (num_new R a n c bs pos 2 [1, 2] _ h0 (by omega) rfl (by omega) (by omega) _ (by simp) _ rfl).mono ?_
  rintro e w1 ⟨A0, rfl, hA0, h1, g1, s1⟩
  rw [sR] at s1
  have kR1 := kR.grown g1 (by simp; omega)
  have HG1 := Lib.hid (grown_trans G0 g1)
  clear kR g1 G0 h0 hA0 sR
  go_wp2_with fail
  refine (num_new R a n c bs (pos + 1) 2 [1, 3] w1 h1 (by omega) rfl (by omega) (by omega) _ (by simp) _ rfl).mono ?_
  rintro e w3 ⟨A1, rfl, hA1, h3, g3, s3⟩
  have kR3 := kR1.grown g3 (by simp; omega)
  have HG3 := Lib.hid (grown_trans HG1.out g3)
  have b4 : Below w3.heap.size w3 (w3.alloc (.cells #[.int .i64 A0, .int .i64 1, .int .i64 A1] 3)) := (Below.refl _ _).alloc (Nat.le_refl _) _
  have o4 := owns_of_blk (B := w1.heap.size) (Blk.new w3 #[.int .i64 A0, .int .i64 1, .int .i64 A1] 3) (by omega) (sz := 1) (m := 3) rfl (by decide)
  obtain ⟨W4, hW4⟩ : ∃ W4, W4 = w3.alloc (.cells #[.int .i64 A0, .int .i64 1, .int .i64 A1] 3) := ⟨_, rfl⟩
  have s4 : W4.heap.size = w3.heap.size + 1 := by rw [hW4]; simp
  rw [← hW4] at b4 o4
  obtain ⟨W5, hW5⟩ : ∃ W5, W5 = W4.alloc (.cells #[.slice (some ⟨w3.heap.size, 0, none⟩) 3 3, .slice none 0 0, .slice none 0 0, .slice none 0 0, .slice none 0 0] 26) := ⟨_, rfl⟩
  have b5 : Below W4.heap.size W4 W5 := by rw [hW5]; exact (Below.refl _ _).alloc (Nat.le_refl _) _
  have kB : Blk W5 (w3.heap.size + 1) #[.slice (some ⟨w3.heap.size, 0, none⟩) 3 3, .slice none 0 0, .slice none 0 0, .slice none 0 0, .slice none 0 0] 26 := by rw [hW5, ← s4]; exact Blk.new _ _ _
  have s5 : W5.heap.size = w3.heap.size + 2 := by rw [hW5]; simp; omega
  have e0 : ∀ W : World, W.ownsRow w1.heap.size 3 1 (.slice none 0 0) 0 (ints []) := fun W => ⟨by simp [ints], .inl ⟨rfl, rfl⟩⟩
  have HC : Hid (CopyAt W5 w1.heap.size (w3.heap.size + 1) ⟨some ⟨w3.heap.size, 0, none⟩, 3, 3, none, 0, 0, none, 0, 0, none, 0, 0, none, 0, 0⟩ [] ⟨[A0, 1, A1], [], [], [], []⟩ 0) := Lib.hid (CopyAt.four kB (owns_below o4 b5) (e0 _) (e0 _) (e0 _))
  have HR5 := Lib.hid ((kR3.below b4).below b5)
  have HD5 := Lib.hid ((h3.below b4).below b5)
  have HG5 := Lib.hid (grown_trans (grown_trans HG3.out (grown_of_below b4 _)) (grown_of_below b5 _))
  clear h1 g3 kR1 kR3 h3 b4 b5 o4 kB e0 hA1
  go_wp2_with fail
  rw [← hW4, ← hW5]
  have s5' : w3.heap.size + 2 ≤ W5.heap.size := by omega
  have s1' : w.heap.size + 1 ≤ w1.heap.size := s1
  clear s4 s5 hW4 hW5
  go_loopw [4] (fun vi wr => ∃ (j : Nat) (v : PV) (vs : List Value) (p : Pg) (pos' : Int), vi = .int .i64 j ∧ j ≤ 2 ∧ p.threads.length = j ∧ pos' ≤ pos + 2 + 4 * p.threads.length ∧ Hid (CopyAt wr w1.heap.size (w3.heap.size + 1) v vs p p.threads.length) ∧ Hid (ShortP p p.threads.length) ∧ Hid (Rdr wr R a n c bs pos') ∧ Hid (Blk wr w.heap.size #[.slice none 0 0, .slice none 0 0, .slice none 0 0, .slice none 0 0, .slice none 0 0] 26) ∧ Hid (w.grownBy wr (some R)) ∧ w3.heap.size + 2 ≤ wr.heap.size) (fun vi _ => 2 - (intOf vi).toNat)
  case atStart => exact ⟨0, _, _, ⟨[A0, 1, A1], [], [], [], []⟩, pos + 1 + 1, rfl, by omega, rfl, by simp; omega, HC, Lib.hid ⟨by simp, by simp, by simp, by simp, by simp, by simp⟩, HD5, HR5, HG5, s5'⟩
  case round =>
    obtain ⟨wo, rfl⟩ : ∃ x, x = wr := ⟨_, rfl⟩
    obtain ⟨j, v, vs, p, pos', rfl, hj2, hpj, hpos, HC, HS, HD, HR, HG, hS⟩ := hrel
    have HPJ := Lib.hid hpj
    have hpos2 : pos' ≤ pos + 2 + 4 * j := by rw [← hpj]; exact hpos
    clear hpj hpos
    by_cases hj : j < 2
    · have bE : Below wo.heap.size wo (wo.alloc (.cells #[] 44)) := (Below.refl _ _).alloc (Nat.le_refl _) _
      have hown := owns_empty wo 44 3
      have HDi := Lib.hid (HD.out.below bE)
      have HWi := Lib.hid (grown_of_below bE (some R))
      have sE : (wo.alloc (.cells #[] 44)).heap.size = wo.heap.size + 1 := by simp
      have hSi : wo.heap.size ≤ (wo.alloc (.cells #[] 44)).heap.size := by omega
      clear bE sE
      go_wp2_with fail
      refine (pick_some R a n c bs (pos') 3 _ HDi.out (by omega) (by omega)).mono ?_
      rintro e wp1 ⟨X, rfl, hX, hd, g, _⟩
      have hSi' := g.size
      have hSj : wo.heap.size ≤ wp1.heap.size := by omega
      replace hown := owns_grown hown g (fun k e1 e2 => by cases e2; have := owns_row hown _ e1; omega)
      replace HDi := Lib.hid hd
      replace HWi := Lib.hid (grown_trans HWi.out g)
      clear hd g hSi hSi'
      have hSi := hSj
      clear hSj
      go_wp2_with fail
      refine (pick_some R a n c bs (pos' + 1) 3 _ HDi.out (by omega) (by omega)).mono ?_
      rintro e wp2 ⟨Y, rfl, hY, hd, g, _⟩
      have hSi' := g.size
      have hSj : wo.heap.size ≤ wp2.heap.size := by omega
      replace hown := owns_grown hown g (fun k e1 e2 => by cases e2; have := owns_row hown _ e1; omega)
      replace HDi := Lib.hid hd
      replace HWi := Lib.hid (grown_trans HWi.out g)
      clear hd g hSi hSi'
      have hSi := hSj
      clear hSj
      have ONE : Hid (∀ u ∈ ([.int .i64 2, .int .i64 (X : Int), .int .i64 1] : List Value), u.oneCell' = true) := Lib.hid (by intro u hu; simp only [List.mem_cons, List.not_mem_nil, or_false] at hu; rcases hu with rfl | rfl | rfl <;> rfl)
      go_wp2_with (at_builtin; refine wpList_append_sl (m := 1) (cm := 1) (news := [.int .i64 2, .int .i64 (X : Int), .int .i64 1]) rfl (.tmp 25) (.tmp 28) 34 rfl Try.underlying34 info_op rfl (by decide) rfl hown rfl rfl rfl ONE.out (by omega) (by decide) hSi ?_; intro a1q c1q wa3 hown2 hgr; have HOW := Lib.hid hown; clear hown)
      have hrow : ∀ k, rowOf (some ⟨wo.heap.size, 0, none⟩) = some k → wo.heap.size ≤ k := fun k hk => (owns_row HOW.out k hk).1
      have hSi' := hgr.size
      have hSj : wo.heap.size ≤ wa3.heap.size := by omega
      replace HDi := Lib.hid (HDi.out.gr hgr (fun k hk => by have := hrow k hk; omega))
      replace HWi := Lib.hid (grown_new HWi.out hgr (fun k hk => hrow k hk))
      have hown : wa3.ownsRow wo.heap.size 44 3 (.slice a1q 1 c1q) 1 (opsV ([⟨2, (X : Int), 1⟩])) := by simpa [opsV, opv] using hown2
      clear ONE hown2 hgr HOW hrow hSi hSi'
      have hSi := hSj
      clear hSj
      go_wp2_with fail
      refine (pick_some R a n c bs (pos' + 1 + 1) 3 _ HDi.out (by omega) (by omega)).mono ?_
      rintro e wp4 ⟨Z, rfl, hZ, hd, g, _⟩
      have hSi' := g.size
      have hSj : wo.heap.size ≤ wp4.heap.size := by omega
      replace hown := owns_grown hown g (fun k e1 e2 => by cases e2; have := owns_row hown _ e1; omega)
      replace HDi := Lib.hid hd
      replace HWi := Lib.hid (grown_trans HWi.out g)
      clear hd g hSi hSi'
      have hSi := hSj
      clear hSj
      by_cases hz : 0 < Z
      · have tz : decide ((0 : Int) < (Z : Int)) = true := decide_eq_true (by omega)
        have ONE : Hid (∀ u ∈ ([.int .i64 2, .int .i64 (Y : Int), .int .i64 1, .int .i64 3, .int .i64 (Y : Int), .int .i64 1] : List Value), u.oneCell' = true) := Lib.hid (by intro u hu; simp only [List.mem_cons, List.not_mem_nil, or_false] at hu; rcases hu with rfl | rfl | rfl | rfl | rfl | rfl <;> rfl)
        go_wp2_with (at_builtin; refine wpList_append_sl (m := 2) (cm := 2) (news := [.int .i64 2, .int .i64 (Y : Int), .int .i64 1, .int .i64 3, .int .i64 (Y : Int), .int .i64 1]) rfl (.tmp 33) (.tmp 38) 34 rfl Try.underlying34 info_op rfl (by decide) rfl hown rfl rfl rfl ONE.out (by omega) (by decide) hSi ?_; intro a2q c2q wa5 hown2 hgr; have HOW := Lib.hid hown; clear hown)
        have hrow : ∀ k, rowOf (a1q) = some k → wo.heap.size ≤ k := fun k hk => (owns_row HOW.out k hk).1
        have hSi' := hgr.size
        have hSj : wo.heap.size ≤ wa5.heap.size := by omega
        replace HDi := Lib.hid (HDi.out.gr hgr (fun k hk => by have := hrow k hk; omega))
        replace HWi := Lib.hid (grown_new HWi.out hgr (fun k hk => hrow k hk))
        have hown : wa5.ownsRow wo.heap.size 44 3 (.slice a2q 3 c2q) 3 (opsV ([⟨2, (X : Int), 1⟩] ++ [⟨2, (Y : Int), 1⟩, ⟨3, (Y : Int), 1⟩])) := by simpa [opsV, opv] using hown2
        clear ONE hown2 hgr HOW hrow hSi hSi'
        have hSi := hSj
        clear hSj
        go_wp2_with fail
        refine (pick_some R a n c bs (pos' + 1 + 1 + 1) 6 _ HDi.out (by omega) (by omega)).mono ?_
        rintro e wp6 ⟨U, rfl, hU, hd, g, _⟩
        have hSi' := g.size
        have hSj : wo.heap.size ≤ wp6.heap.size := by omega
        replace hown := owns_grown hown g (fun k e1 e2 => by cases e2; have := owns_row hown _ e1; omega)
        replace HDi := Lib.hid hd
        replace HWi := Lib.hid (grown_trans HWi.out g)
        clear hd g hSi hSi'
        have hSi := hSj
        clear hSj
        by_cases hu : 0 < U
        · have tu : decide ((0 : Int) < (U : Int)) = true := decide_eq_true (by omega)
          have ONE : Hid (∀ u ∈ ([.int .i64 3, .int .i64 (X : Int), .int .i64 1] : List Value), u.oneCell' = true) := Lib.hid (by intro u hu; simp only [List.mem_cons, List.not_mem_nil, or_false] at hu; rcases hu with rfl | rfl | rfl <;> rfl)
          go_upto_region 14 with (at_builtin; refine wpList_append_sl (m := 1) (cm := 1) (news := [.int .i64 3, .int .i64 (X : Int), .int .i64 1]) rfl (.tmp 48) (.tmp 51) 34 rfl Try.underlying34 info_op rfl (by decide) rfl hown rfl rfl rfl ONE.out (by omega) (by decide) hSi ?_; intro a3q c3q wa7 hown2 hgr; have HOW := Lib.hid hown; clear hown)
          have hrow : ∀ k, rowOf (a2q) = some k → wo.heap.size ≤ k := fun k hk => (owns_row HOW.out k hk).1
          have hSi' := hgr.size
          have hSj : wo.heap.size ≤ wa7.heap.size := by omega
          replace HDi := Lib.hid (HDi.out.gr hgr (fun k hk => by have := hrow k hk; omega))
          replace HWi := Lib.hid (grown_new HWi.out hgr (fun k hk => hrow k hk))
          have hown : wa7.ownsRow wo.heap.size 44 3 (.slice a3q 4 c3q) 4 (opsV ([⟨2, (X : Int), 1⟩] ++ [⟨2, (Y : Int), 1⟩, ⟨3, (Y : Int), 1⟩] ++ [⟨3, (X : Int), 1⟩])) := by simpa [opsV, opv] using hown2
          clear ONE hown2 hgr HOW hrow hSi hSi'
          have hSi := hSj
          clear hSj
          obtain ⟨rw_, hrw⟩ : ∃ t : List OpD, t = [⟨2, (X : Int), 1⟩] ++ [⟨2, (Y : Int), 1⟩, ⟨3, (Y : Int), 1⟩] ++ [⟨3, (X : Int), 1⟩] := ⟨_, rfl⟩
          have hrl : rw_.length = 4 := by rw [hrw]; rfl
          rw [← hrw] at hown
          clear hrw
          have HCi := Lib.hid (HC.out.drawn HWi.out (by omega) (by omega))
          have e4 := HCi.out.blk.cell 4 rfl
          have hot := HCi.out.ot
          have hSi2 : w1.heap.size ≤ wa7.heap.size := by omega
          have HO := Lib.hid (owns_mono hown (B' := 0) (Nat.zero_le _))
          have HF : Hid (∀ q, rowOf (a3q) = some q → w1.heap.size ≤ q ∧ q ∉ fpV vs) := Lib.hid (fun q hq => ⟨by have h1 := (owns_row hown q hq).1; omega, fun hm => by have h1 := (owns_row hown q hq).1; have h2 := HC.out.inn.lt q hm; omega⟩)
          have HRi := Lib.hid (HR.out.grown HWi.out (by simp; omega))
          have HGi := Lib.hid (grown_trans HG.out HWi.out)
          have hnt : v.nt ≤ 9 := (by have h1 := HC.out.ot.1; have h2 := HC.out.inn.len; have h3 := HPJ.out; simp only [List.length_map, List.take_length] at h2; omega)
          clear hown
          go_wp2_with (at_builtin; refine wpList_append_sl (news := [.slice a3q 4 c3q]) rfl (.tmp 54) (.tmp 56) 24 rfl Try.underlying24 info_ops rfl (by decide) rfl hot rfl rfl rfl (by simp [Value.oneCell']) (by omega) (by decide) hSi2 ?_; intro a6 c6 w8 hown8 hgr8; have hy4 := (HCi.out.blk.grown hgr8 (blk_owns HCi.out.blk hot types_ne.2.2.2.1)).fz 4; have hx4 := (HCi.out.blk.grown hgr8 (blk_owns HCi.out.blk hot types_ne.2.2.2.1)).cell 4 rfl)
          go_roundw
          case rel =>
            have s8 := hgr8.size
            have hrow : ∀ k, rowOf v.t = some k → w1.heap.size ≤ k := fun k hk => (owns_row hot k hk).1
            have gs := grown_set w8 (w3.heap.size + 1) 4 (.slice a6 (v.nt + 1) c6)
            have hpj := HPJ.out
            refine ⟨j + 1, v.thr a6 (v.nt + 1) c6, vs ++ [.slice a3q 4 c3q], { p with threads := p.threads ++ [rw_] }, pos' + 1 + 1 + 1 + 1, by go_num, by omega, by simp; omega, by simp; omega, Lib.hid (HCi.out.more HO.out HF.out hown8 hgr8), Lib.hid ⟨HS.out.s, HS.out.g, HS.out.b, HS.out.r, by simp, fun t ht => ?_⟩, Lib.hid ((HDi.out.gr hgr8 (fun q hq => by have := hrow q hq; omega)).gr gs (fun i e => by cases e; omega)), Lib.hid ((HRi.out.grown hgr8 (fun e => by have := hrow _ e; omega)).other _ _ (by simp; omega)), Lib.hid (grown_new (grown_new HGi.out hgr8 (fun q hq => by have := hrow q hq; omega)) gs (fun i e => by cases e; omega)), by simp; omega⟩
            rcases List.mem_append.1 ht with ht | ht
            · exact HS.out.i t ht
            · obtain rfl := List.mem_singleton.1 ht; omega
          case measure => simp [intOf]; omega
        · have tu : decide ((0 : Int) < (U : Int)) = false := decide_eq_false (by omega)
          obtain ⟨rw_, hrw⟩ : ∃ t : List OpD, t = [⟨2, (X : Int), 1⟩] ++ [⟨2, (Y : Int), 1⟩, ⟨3, (Y : Int), 1⟩] := ⟨_, rfl⟩
          have hrl : rw_.length = 3 := by rw [hrw]; rfl
          rw [← hrw] at hown
          clear hrw
          have HCi := Lib.hid (HC.out.drawn HWi.out (by omega) (by omega))
          have e4 := HCi.out.blk.cell 4 rfl
          have hot := HCi.out.ot
          have hSi2 : w1.heap.size ≤ wp6.heap.size := by omega
          have HO := Lib.hid (owns_mono hown (B' := 0) (Nat.zero_le _))
          have HF : Hid (∀ q, rowOf (a2q) = some q → w1.heap.size ≤ q ∧ q ∉ fpV vs) := Lib.hid (fun q hq => ⟨by have h1 := (owns_row hown q hq).1; omega, fun hm => by have h1 := (owns_row hown q hq).1; have h2 := HC.out.inn.lt q hm; omega⟩)
          have HRi := Lib.hid (HR.out.grown HWi.out (by simp; omega))
          have HGi := Lib.hid (grown_trans HG.out HWi.out)
          have hnt : v.nt ≤ 9 := (by have h1 := HC.out.ot.1; have h2 := HC.out.inn.len; have h3 := HPJ.out; simp only [List.length_map, List.take_length] at h2; omega)
          clear hown
          go_wp2_with (at_builtin; refine wpList_append_sl (news := [.slice a2q 3 c2q]) rfl (.tmp 54) (.tmp 56) 24 rfl Try.underlying24 info_ops rfl (by decide) rfl hot rfl rfl rfl (by simp [Value.oneCell']) (by omega) (by decide) hSi2 ?_; intro a6 c6 w8 hown8 hgr8; have hy4 := (HCi.out.blk.grown hgr8 (blk_owns HCi.out.blk hot types_ne.2.2.2.1)).fz 4; have hx4 := (HCi.out.blk.grown hgr8 (blk_owns HCi.out.blk hot types_ne.2.2.2.1)).cell 4 rfl)
          go_roundw
          case rel =>
            have s8 := hgr8.size
            have hrow : ∀ k, rowOf v.t = some k → w1.heap.size ≤ k := fun k hk => (owns_row hot k hk).1
            have gs := grown_set w8 (w3.heap.size + 1) 4 (.slice a6 (v.nt + 1) c6)
            have hpj := HPJ.out
            refine ⟨j + 1, v.thr a6 (v.nt + 1) c6, vs ++ [.slice a2q 3 c2q], { p with threads := p.threads ++ [rw_] }, pos' + 1 + 1 + 1 + 1, by go_num, by omega, by simp; omega, by simp; omega, Lib.hid (HCi.out.more HO.out HF.out hown8 hgr8), Lib.hid ⟨HS.out.s, HS.out.g, HS.out.b, HS.out.r, by simp, fun t ht => ?_⟩, Lib.hid ((HDi.out.gr hgr8 (fun q hq => by have := hrow q hq; omega)).gr gs (fun i e => by cases e; omega)), Lib.hid ((HRi.out.grown hgr8 (fun e => by have := hrow _ e; omega)).other _ _ (by simp; omega)), Lib.hid (grown_new (grown_new HGi.out hgr8 (fun q hq => by have := hrow q hq; omega)) gs (fun i e => by cases e; omega)), by simp; omega⟩
            rcases List.mem_append.1 ht with ht | ht
            · exact HS.out.i t ht
            · obtain rfl := List.mem_singleton.1 ht; omega
          case measure => simp [intOf]; omega
      · have tz : decide ((0 : Int) < (Z : Int)) = false := decide_eq_false (by omega)
        have ONE : Hid (∀ u ∈ ([.int .i64 1, .int .i64 0, .int .i64 (j : Int)] : List Value), u.oneCell' = true) := Lib.hid (by intro u hu; simp only [List.mem_cons, List.not_mem_nil, or_false] at hu; rcases hu with rfl | rfl | rfl <;> rfl)
        go_wp2_with (at_builtin; refine wpList_append_sl (m := 1) (cm := 1) (news := [.int .i64 1, .int .i64 0, .int .i64 (j : Int)]) rfl (.tmp 40) (.tmp 43) 34 rfl Try.underlying34 info_op rfl (by decide) rfl hown rfl rfl rfl ONE.out (by omega) (by decide) hSi ?_; intro a4q c4q wa8 hown2 hgr; have HOW := Lib.hid hown; clear hown)
        have hrow : ∀ k, rowOf (a1q) = some k → wo.heap.size ≤ k := fun k hk => (owns_row HOW.out k hk).1
        have hSi' := hgr.size
        have hSj : wo.heap.size ≤ wa8.heap.size := by omega
        replace HDi := Lib.hid (HDi.out.gr hgr (fun k hk => by have := hrow k hk; omega))
        replace HWi := Lib.hid (grown_new HWi.out hgr (fun k hk => hrow k hk))
        have hown : wa8.ownsRow wo.heap.size 44 3 (.slice a4q 2 c4q) 2 (opsV ([⟨2, (X : Int), 1⟩] ++ [⟨1, 0, (j : Int)⟩])) := by simpa [opsV, opv] using hown2
        clear ONE hown2 hgr HOW hrow hSi hSi'
        have hSi := hSj
        clear hSj
        go_wp2_with fail
        refine (pick_some R a n c bs (pos' + 1 + 1 + 1) 6 _ HDi.out (by omega) (by omega)).mono ?_
        rintro e wp9 ⟨U, rfl, hU, hd, g, _⟩
        have hSi' := g.size
        have hSj : wo.heap.size ≤ wp9.heap.size := by omega
        replace hown := owns_grown hown g (fun k e1 e2 => by cases e2; have := owns_row hown _ e1; omega)
        replace HDi := Lib.hid hd
        replace HWi := Lib.hid (grown_trans HWi.out g)
        clear hd g hSi hSi'
        have hSi := hSj
        clear hSj
        by_cases hu : 0 < U
        · have tu : decide ((0 : Int) < (U : Int)) = true := decide_eq_true (by omega)
          have ONE : Hid (∀ u ∈ ([.int .i64 3, .int .i64 (X : Int), .int .i64 1] : List Value), u.oneCell' = true) := Lib.hid (by intro u hu; simp only [List.mem_cons, List.not_mem_nil, or_false] at hu; rcases hu with rfl | rfl | rfl <;> rfl)
          go_upto_region 14 with (at_builtin; refine wpList_append_sl (m := 1) (cm := 1) (news := [.int .i64 3, .int .i64 (X : Int), .int .i64 1]) rfl (.tmp 48) (.tmp 51) 34 rfl Try.underlying34 info_op rfl (by decide) rfl hown rfl rfl rfl ONE.out (by omega) (by decide) hSi ?_; intro a5q c5q wa10 hown2 hgr; have HOW := Lib.hid hown; clear hown)
          have hrow : ∀ k, rowOf (a4q) = some k → wo.heap.size ≤ k := fun k hk => (owns_row HOW.out k hk).1
          have hSi' := hgr.size
          have hSj : wo.heap.size ≤ wa10.heap.size := by omega
          replace HDi := Lib.hid (HDi.out.gr hgr (fun k hk => by have := hrow k hk; omega))
          replace HWi := Lib.hid (grown_new HWi.out hgr (fun k hk => hrow k hk))
          have hown : wa10.ownsRow wo.heap.size 44 3 (.slice a5q 3 c5q) 3 (opsV ([⟨2, (X : Int), 1⟩] ++ [⟨1, 0, (j : Int)⟩] ++ [⟨3, (X : Int), 1⟩])) := by simpa [opsV, opv] using hown2
          clear ONE hown2 hgr HOW hrow hSi hSi'
          have hSi := hSj
          clear hSj
          obtain ⟨rw_, hrw⟩ : ∃ t : List OpD, t = [⟨2, (X : Int), 1⟩] ++ [⟨1, 0, (j : Int)⟩] ++ [⟨3, (X : Int), 1⟩] := ⟨_, rfl⟩
          have hrl : rw_.length = 3 := by rw [hrw]; rfl
          rw [← hrw] at hown
          clear hrw
          have HCi := Lib.hid (HC.out.drawn HWi.out (by omega) (by omega))
          have e4 := HCi.out.blk.cell 4 rfl
          have hot := HCi.out.ot
          have hSi2 : w1.heap.size ≤ wa10.heap.size := by omega
          have HO := Lib.hid (owns_mono hown (B' := 0) (Nat.zero_le _))
          have HF : Hid (∀ q, rowOf (a5q) = some q → w1.heap.size ≤ q ∧ q ∉ fpV vs) := Lib.hid (fun q hq => ⟨by have h1 := (owns_row hown q hq).1; omega, fun hm => by have h1 := (owns_row hown q hq).1; have h2 := HC.out.inn.lt q hm; omega⟩)
          have HRi := Lib.hid (HR.out.grown HWi.out (by simp; omega))
          have HGi := Lib.hid (grown_trans HG.out HWi.out)
          have hnt : v.nt ≤ 9 := (by have h1 := HC.out.ot.1; have h2 := HC.out.inn.len; have h3 := HPJ.out; simp only [List.length_map, List.take_length] at h2; omega)
          clear hown
          go_wp2_with (at_builtin; refine wpList_append_sl (news := [.slice a5q 3 c5q]) rfl (.tmp 54) (.tmp 56) 24 rfl Try.underlying24 info_ops rfl (by decide) rfl hot rfl rfl rfl (by simp [Value.oneCell']) (by omega) (by decide) hSi2 ?_; intro a6 c6 w8 hown8 hgr8; have hy4 := (HCi.out.blk.grown hgr8 (blk_owns HCi.out.blk hot types_ne.2.2.2.1)).fz 4; have hx4 := (HCi.out.blk.grown hgr8 (blk_owns HCi.out.blk hot types_ne.2.2.2.1)).cell 4 rfl)
          go_roundw
          case rel =>
            have s8 := hgr8.size
            have hrow : ∀ k, rowOf v.t = some k → w1.heap.size ≤ k := fun k hk => (owns_row hot k hk).1
            have gs := grown_set w8 (w3.heap.size + 1) 4 (.slice a6 (v.nt + 1) c6)
            have hpj := HPJ.out
            refine ⟨j + 1, v.thr a6 (v.nt + 1) c6, vs ++ [.slice a5q 3 c5q], { p with threads := p.threads ++ [rw_] }, pos' + 1 + 1 + 1 + 1, by go_num, by omega, by simp; omega, by simp; omega, Lib.hid (HCi.out.more HO.out HF.out hown8 hgr8), Lib.hid ⟨HS.out.s, HS.out.g, HS.out.b, HS.out.r, by simp, fun t ht => ?_⟩, Lib.hid ((HDi.out.gr hgr8 (fun q hq => by have := hrow q hq; omega)).gr gs (fun i e => by cases e; omega)), Lib.hid ((HRi.out.grown hgr8 (fun e => by have := hrow _ e; omega)).other _ _ (by simp; omega)), Lib.hid (grown_new (grown_new HGi.out hgr8 (fun q hq => by have := hrow q hq; omega)) gs (fun i e => by cases e; omega)), by simp; omega⟩
            rcases List.mem_append.1 ht with ht | ht
            · exact HS.out.i t ht
            · obtain rfl := List.mem_singleton.1 ht; omega
          case measure => simp [intOf]; omega
        · have tu : decide ((0 : Int) < (U : Int)) = false := decide_eq_false (by omega)
          obtain ⟨rw_, hrw⟩ : ∃ t : List OpD, t = [⟨2, (X : Int), 1⟩] ++ [⟨1, 0, (j : Int)⟩] := ⟨_, rfl⟩
          have hrl : rw_.length = 2 := by rw [hrw]; rfl
          rw [← hrw] at hown
          clear hrw
          have HCi := Lib.hid (HC.out.drawn HWi.out (by omega) (by omega))
          have e4 := HCi.out.blk.cell 4 rfl
          have hot := HCi.out.ot
          have hSi2 : w1.heap.size ≤ wp9.heap.size := by omega
          have HO := Lib.hid (owns_mono hown (B' := 0) (Nat.zero_le _))
          have HF : Hid (∀ q, rowOf (a4q) = some q → w1.heap.size ≤ q ∧ q ∉ fpV vs) := Lib.hid (fun q hq => ⟨by have h1 := (owns_row hown q hq).1; omega, fun hm => by have h1 := (owns_row hown q hq).1; have h2 := HC.out.inn.lt q hm; omega⟩)
          have HRi := Lib.hid (HR.out.grown HWi.out (by simp; omega))
          have HGi := Lib.hid (grown_trans HG.out HWi.out)
          have hnt : v.nt ≤ 9 := (by have h1 := HC.out.ot.1; have h2 := HC.out.inn.len; have h3 := HPJ.out; simp only [List.length_map, List.take_length] at h2; omega)
          clear hown
          go_wp2_with (at_builtin; refine wpList_append_sl (news := [.slice a4q 2 c4q]) rfl (.tmp 54) (.tmp 56) 24 rfl Try.underlying24 info_ops rfl (by decide) rfl hot rfl rfl rfl (by simp [Value.oneCell']) (by omega) (by decide) hSi2 ?_; intro a6 c6 w8 hown8 hgr8; have hy4 := (HCi.out.blk.grown hgr8 (blk_owns HCi.out.blk hot types_ne.2.2.2.1)).fz 4; have hx4 := (HCi.out.blk.grown hgr8 (blk_owns HCi.out.blk hot types_ne.2.2.2.1)).cell 4 rfl)
          go_roundw
          case rel =>
            have s8 := hgr8.size
            have hrow : ∀ k, rowOf v.t = some k → w1.heap.size ≤ k := fun k hk => (owns_row hot k hk).1
            have gs := grown_set w8 (w3.heap.size + 1) 4 (.slice a6 (v.nt + 1) c6)
            have hpj := HPJ.out
            refine ⟨j + 1, v.thr a6 (v.nt + 1) c6, vs ++ [.slice a4q 2 c4q], { p with threads := p.threads ++ [rw_] }, pos' + 1 + 1 + 1 + 1, by go_num, by omega, by simp; omega, by simp; omega, Lib.hid (HCi.out.more HO.out HF.out hown8 hgr8), Lib.hid ⟨HS.out.s, HS.out.g, HS.out.b, HS.out.r, by simp, fun t ht => ?_⟩, Lib.hid ((HDi.out.gr hgr8 (fun q hq => by have := hrow q hq; omega)).gr gs (fun i e => by cases e; omega)), Lib.hid ((HRi.out.grown hgr8 (fun e => by have := hrow _ e; omega)).other _ _ (by simp; omega)), Lib.hid (grown_new (grown_new HGi.out hgr8 (fun q hq => by have := hrow q hq; omega)) gs (fun i e => by cases e; omega)), by simp; omega⟩
            rcases List.mem_append.1 ht with ht | ht
            · exact HS.out.i t ht
            · obtain rfl := List.mem_singleton.1 ht; omega
          case measure => simp [intOf]; omega
    · obtain rfl : j = 2 := by omega
      have e0 := HC.out.blk.cell 0 rfl
      have e1 := HC.out.blk.cell 1 rfl
      have e2 := HC.out.blk.cell 2 rfl
      have e3 := HC.out.blk.cell 3 rfl
      have e4 := HC.out.blk.cell 4 rfl
      have y0 := HR.out.cell 0 rfl
      have x0 := HR.out.fz 0
      have y1 := HR.out.cell 1 rfl
      have x1 := HR.out.fz 1
      have y2 := HR.out.cell 2 rfl
      have x2 := HR.out.fz 2
      have y3 := HR.out.cell 3 rfl
      have x3 := HR.out.fz 3
      have y4 := HR.out.cell 4 rfl
      have x4 := HR.out.fz 4
      have hz5 : wo.grownBy ((((((wo).setCell ⟨w.heap.size, 0, none⟩ (.slice v.s v.ns v.cs)).setCell ⟨w.heap.size, 1, none⟩ (.slice v.g v.ng v.cg)).setCell ⟨w.heap.size, 2, none⟩ (.slice v.b v.nb v.cb)).setCell ⟨w.heap.size, 3, none⟩ (.slice v.r v.nr v.cr)).setCell ⟨w.heap.size, 4, none⟩ (.slice v.t v.nt v.ct)) (some w.heap.size) := grown_trans (grown_trans (grown_trans (grown_trans (grown_set _ _ _ _) (grown_set _ _ _ _)) (grown_set _ _ _ _)) (grown_set _ _ _ _)) (grown_set _ _ _ _)
      have HZ5 := Lib.hid hz5
      clear hz5
      go_wp2
      refine bodyPost_ret (v := .agg #[.slice v.s v.ns v.cs, .slice v.g v.ng v.cg, .slice v.b v.nb v.cb, .slice v.r v.nr v.cr, .slice v.t v.nt v.ct]) (by simp [results, Try.results103, go_sem, y0, y1, y2, y3, y4]) rfl ⟨v, vs, p, pos', rfl, (HC.out.own rfl).keep (fun k hk hl => HZ5.out.block k hl (fun e => by cases e; have := HC.out.fresh _ hk; omega)), fun q hq => by have := HC.out.fresh q hq; omega, HS.out.few (by have := HPJ.out; omega), HD.out.gr HZ5.out (fun i e => by cases e; omega), by omega, grown_new HG.out HZ5.out (fun i e => by cases e; omega)⟩

set_option maxRecDepth 100000 in
set_option maxHeartbeats 4000000 in
theorem l10Draw_any (R : Nat) (a : Option Addr) (n c : Nat) (bs : List Int) (pos : Int) (w : World) (h : Rdr w R a n c bs pos) (hp : pos ≤ 1099511500000) :
    Calls Try.prog 79 #[.pointer (some ⟨R, 0, none⟩)] w fun e w' => ∃ (v : PV) (vs : List Value) (p : Pg) (pos' : Int), e = .returned (.agg #[.slice v.s v.ns v.cs, .slice v.g v.ng v.cg, .slice v.b v.nb v.cb, .slice v.r v.nr v.cr, .slice v.t v.nt v.ct]) ∧ OwnP w' v vs p.cells ∧ (∀ q ∈ fpP v vs, w.heap.size ≤ q) ∧ Few p 10 ∧ Rdr w' R a n c bs pos' ∧ pos' ≤ pos + 200 ∧ w.grownBy w' (some R) := by
  have hRw := h.lt
  have b0 : Below w.heap.size w (w.alloc (.cells #[.slice none 0 0, .slice none 0 0, .slice none 0 0, .slice none 0 0, .slice none 0 0] 26)) := (Below.refl _ _).alloc (Nat.le_refl _) _
  have k0 : Blk (w.alloc (.cells #[.slice none 0 0, .slice none 0 0, .slice none 0 0, .slice none 0 0, .slice none 0 0] 26)) w.heap.size #[.slice none 0 0, .slice none 0 0, .slice none 0 0, .slice none 0 0, .slice none 0 0] 26 := Blk.new _ _ _
  have s0 : (w.alloc (.cells #[.slice none 0 0, .slice none 0 0, .slice none 0 0, .slice none 0 0, .slice none 0 0] 26)).heap.size = w.heap.size + 1 := by simp
  have h0 := h.below b0
  have HG0 := Lib.hid (grown_of_below b0 (some R))
  clear b0 h
  go_enter Try.func79, Try.ntmps79
  go_wp2_with fail
  refine (pick_some R a n c bs pos 3 _ h0 (by omega) (by omega)).mono ?_
  rintro e w1 ⟨x, rfl, hx, h1, g1, _⟩
  have s1 := g1.size
  rw [s0] at s1
  have k1 := k0.grown g1 (by simp; omega)
  have HG1 := Lib.hid (grown_trans HG0.out g1)
  clear h0 k0 g1 s0 HG0
  by_cases hx0 : 0 < x
  · have t0 : decide ((0 : Int) < (x : Int)) = true := decide_eq_true (by omega)
    go_wp2_with fail
    refine (l10Prog_any R a n c bs (pos + 1) w1 h1 (by omega)).mono ?_
    rintro e w2 ⟨v, vs, p, pos', rfl, o2, f2, z2, h2, hp2, g2⟩
    have s2 := g2.size
    have k2 := k1.grown g2 (by simp; omega)
    have HG2 := Lib.hid (grown_trans HG1.out g2)
    have HO := Lib.hid o2
    have HF := Lib.hid f2
    have HD := Lib.hid h2
    have HZ := Lib.hid z2
    clear h1 k1 g2 o2 f2 h2 z2
    have y0 := k2.cell 0 rfl
    have x0 := k2.fz 0
    have y1 := k2.cell 1 rfl
    have x1 := k2.fz 1
    have y2 := k2.cell 2 rfl
    have x2 := k2.fz 2
    have y3 := k2.cell 3 rfl
    have x3 := k2.fz 3
    have y4 := k2.cell 4 rfl
    have x4 := k2.fz 4
    have hz5 : w2.grownBy ((((((w2).setCell ⟨w.heap.size, 0, none⟩ (.slice v.s v.ns v.cs)).setCell ⟨w.heap.size, 1, none⟩ (.slice v.g v.ng v.cg)).setCell ⟨w.heap.size, 2, none⟩ (.slice v.b v.nb v.cb)).setCell ⟨w.heap.size, 3, none⟩ (.slice v.r v.nr v.cr)).setCell ⟨w.heap.size, 4, none⟩ (.slice v.t v.nt v.ct)) (some (w.heap.size)) := grown_trans (grown_trans (grown_trans (grown_trans (grown_set _ _ _ _) (grown_set _ _ _ _)) (grown_set _ _ _ _)) (grown_set _ _ _ _)) (grown_set _ _ _ _)
    have HZ5 := Lib.hid hz5
    clear hz5
    go_wp2
    refine bodyPost_ret (v := .agg #[.slice v.s v.ns v.cs, .slice v.g v.ng v.cg, .slice v.b v.nb v.cb, .slice v.r v.nr v.cr, .slice v.t v.nt v.ct]) (by simp [results, Try.results79, go_sem, y0, y1, y2, y3, y4]) rfl ⟨v, vs, p, pos', rfl, HO.out.keep (fun k hk hl => HZ5.out.block k hl (fun e => by cases e; have := HF.out _ hk; omega)), fun q hq => by have := HF.out q hq; omega, HZ.out.mono (by omega), HD.out.gr HZ5.out (fun i e => by cases e; omega), by omega, grown_new HG2.out HZ5.out (fun i e => by cases e; omega)⟩
  · have t0 : decide ((0 : Int) < (x : Int)) = false := decide_eq_false (by omega)
    go_wp2_with fail
    refine (l6Draw_any R a n c bs (pos + 1) w1 h1 (by omega)).mono ?_
    rintro e w2 ⟨v, vs, p, pos', rfl, o2, f2, z2, h2, hp2, g2⟩
    have s2 := g2.size
    have k2 := k1.grown g2 (by simp; omega)
    have HG2 := Lib.hid (grown_trans HG1.out g2)
    clear h1 k1 g2
    go_wp2_with fail
    refine (l6Wrong_any R a n c bs pos' v p 9 w2 h2 (by omega) o2.rd z2 (by omega)).mono ?_
    rintro e w3 ⟨v', vs', p', pos3, rfl, o3, f3, z3, h3, hp3, g3⟩
    have s3 := g3.size
    have k3 := k2.grown g3 (by simp; omega)
    have HG3 := Lib.hid (grown_trans HG2.out g3)
    have HO := Lib.hid o3
    have HF := Lib.hid f3
    have HD := Lib.hid h3
    have HZ := Lib.hid z3
    clear k2 g3 o3 f3 h3 z3 o2 f2 h2 z2
    have y0 := k3.cell 0 rfl
    have x0 := k3.fz 0
    have y1 := k3.cell 1 rfl
    have x1 := k3.fz 1
    have y2 := k3.cell 2 rfl
    have x2 := k3.fz 2
    have y3 := k3.cell 3 rfl
    have x3 := k3.fz 3
    have y4 := k3.cell 4 rfl
    have x4 := k3.fz 4
    have hz5 : w3.grownBy ((((((w3).setCell ⟨w.heap.size, 0, none⟩ (.slice v'.s v'.ns v'.cs)).setCell ⟨w.heap.size, 1, none⟩ (.slice v'.g v'.ng v'.cg)).setCell ⟨w.heap.size, 2, none⟩ (.slice v'.b v'.nb v'.cb)).setCell ⟨w.heap.size, 3, none⟩ (.slice v'.r v'.nr v'.cr)).setCell ⟨w.heap.size, 4, none⟩ (.slice v'.t v'.nt v'.ct)) (some (w.heap.size)) := grown_trans (grown_trans (grown_trans (grown_trans (grown_set _ _ _ _) (grown_set _ _ _ _)) (grown_set _ _ _ _)) (grown_set _ _ _ _)) (grown_set _ _ _ _)
    have HZ5 := Lib.hid hz5
    clear hz5
    go_wp2
    refine bodyPost_ret (v := .agg #[.slice v'.s v'.ns v'.cs, .slice v'.g v'.ng v'.cg, .slice v'.b v'.nb v'.cb, .slice v'.r v'.nr v'.cr, .slice v'.t v'.nt v'.ct]) (by simp [results, Try.results79, go_sem, y0, y1, y2, y3, y4]) rfl ⟨v', vs', p', pos3, rfl, HO.out.keep (fun k hk hl => HZ5.out.block k hl (fun e => by cases e; have := HF.out _ hk; omega)), fun q hq => by have := HF.out q hq; omega, HZ.out, HD.out.gr HZ5.out (fun i e => by cases e; omega), by omega, grown_new HG3.out HZ5.out (fun i e => by cases e; omega)⟩

set_option maxRecDepth 100000 in
set_option maxHeartbeats 2000000 in
theorem drawHoldEdges_any (a : Option Addr) (n c : Nat) (bs : List Int) (w : World) (hC : Code13 w a n c bs) :
    Calls Try.prog 35 #[.slice a n c] w fun e w' => ∃ (v : PV) (vs : List Value) (p : Pg), e = .returned (.agg #[.slice v.s v.ns v.cs, .slice v.g v.ng v.cg, .slice v.b v.nb v.cb, .slice v.r v.nr v.cr, .slice v.t v.nt v.ct]) ∧ Own w' w.heap.size v vs p 10 ∧ Below w.heap.size w w' := by
  have b0 : Below w.heap.size w (w.alloc (.cells #[.slice none 0 0, .slice none 0 0, .slice none 0 0, .slice none 0 0, .slice none 0 0] 26)) := (Below.refl _ _).alloc (Nat.le_refl _) _
  have k0 : Blk (w.alloc (.cells #[.slice none 0 0, .slice none 0 0, .slice none 0 0, .slice none 0 0, .slice none 0 0] 26)) w.heap.size #[.slice none 0 0, .slice none 0 0, .slice none 0 0, .slice none 0 0, .slice none 0 0] 26 := Blk.new _ _ _
  have s0 : (w.alloc (.cells #[.slice none 0 0, .slice none 0 0, .slice none 0 0, .slice none 0 0, .slice none 0 0] 26)).heap.size = w.heap.size + 1 := by simp
  have hC0 := hC.below b0
  go_enter Try.func35, Try.ntmps35
  go_wp2_with fail
  refine hC0.open.mono ?_
  rintro e w1 ⟨rfl, n', bs', r1, b1, s1⟩
  have k1 := k0.below b1
  have HB1 := Lib.hid (b0.trans (b1.mono b0.size))
  rw [s0] at r1 s1
  have s1' : w.heap.size + 2 ≤ w1.heap.size := by omega
  clear b0 k0 b1 hC hC0 s1
  rw [s0]
  clear s0
  go_wp2_with fail
  refine (l10Draw_any (w.heap.size + 1) a n' c bs' 0 w1 r1 (by omega)).mono ?_
  rintro e w2 ⟨v, vs, p, pos', rfl, o2, f2, z2, r2, hp2, g2⟩
  have s2 := g2.size
  have k2 := k1.grown g2 (by simp)
  have HB2 := Lib.hid (HB1.out.trans (below_of_grown g2 (by omega) (fun i e => by cases e; omega)))
  have HO : Hid (Own w2 (w.heap.size + 1) v vs p 10) := Lib.hid ⟨o2, fun q hq => by have := f2 q hq; omega, z2⟩
  clear r1 g2 k1 r2 o2 f2 z2
  have y0 := k2.cell 0 rfl
  have x0 := k2.fz 0
  have y1 := k2.cell 1 rfl
  have x1 := k2.fz 1
  have y2 := k2.cell 2 rfl
  have x2 := k2.fz 2
  have y3 := k2.cell 3 rfl
  have x3 := k2.fz 3
  have y4 := k2.cell 4 rfl
  have x4 := k2.fz 4
  have hz5 : w2.grownBy ((((((w2).setCell ⟨w.heap.size, 0, none⟩ (.slice v.s v.ns v.cs)).setCell ⟨w.heap.size, 1, none⟩ (.slice v.g v.ng v.cg)).setCell ⟨w.heap.size, 2, none⟩ (.slice v.b v.nb v.cb)).setCell ⟨w.heap.size, 3, none⟩ (.slice v.r v.nr v.cr)).setCell ⟨w.heap.size, 4, none⟩ (.slice v.t v.nt v.ct)) (some (w.heap.size)) := grown_trans (grown_trans (grown_trans (grown_trans (grown_set _ _ _ _) (grown_set _ _ _ _)) (grown_set _ _ _ _)) (grown_set _ _ _ _)) (grown_set _ _ _ _)
  have HZ5 := Lib.hid hz5
  clear hz5
  go_wp2
  refine bodyPost_ret (v := .agg #[.slice v.s v.ns v.cs, .slice v.g v.ng v.cg, .slice v.b v.nb v.cb, .slice v.r v.nr v.cr, .slice v.t v.nt v.ct]) (by simp [results, Try.results35, go_sem, y0, y1, y2, y3, y4]) rfl ⟨v, vs, p, rfl, (HO.out.gr HZ5.out (by omega)).mono (by omega), HB2.out.trans (below_of_grown HZ5.out (by omega) (fun i e => by cases e; omega))⟩

end Go.Proofs.Ytnobkdkfhgjeeab
