/- Part of a proof: RStepT. -/
import Derived.Test.YtfpgijihiifogaaQRDo
import Derived.Test.YtfpgijihiifogaaQRinv
set_option maxRecDepth 100000
set_option maxHeartbeats 16000000
namespace Go.Proofs.Ytfpgijihiifogaa
open Go.RowKit
theorem at_app (bx l : List It) (k : Nat) : (bx ++ l)[bx.length + k]? = l[k]? := by rw [List.getElem?_append_right (by omega)]; congr 1; omega
def stpI (w0 B : World) (fl : List It) (P0 S0 T0 : Value) (p : Pg) (s : StD) (t : Int) (L : Nat → Bool) (σ : Nat → Value) (w : World) : Prop :=
 (L 0 = true → σ 0 = P0) ∧ (L 1 = true → σ 1 = S0) ∧ (L 3 = true → σ 3 = T0) ∧ ∃ bx : List It, (L 5 = true → ∃ g, σ 5 = .pointer (some ⟨g, 0, none⟩) ∧ bx = [.blk g zC 44]) ∧ (L 5 = false → bx = []) ∧ (if L 4 = true then ∃ (v' : StV) (L' : StL), σ 4 = v'.val ∧ Sf w0 w (bx ++ fl) v' L' (stepD p s t) else if L 2 = true then ∃ (v' : StV) (L' : StL), σ 2 = v'.val ∧ Sf w0 w (bx ++ fl) v' L' s else Fr w0 w (bx ++ fl) ∧ Below B.heap.size B w)
theorem stpI.cong {w0 B : World} {fl : List It} {P0 S0 T0 : Value} {p : Pg} {s : StD} {t : Int} : ∀ L L' σ σ' w, (∀ j, j < 6 → L j = L' j) → (∀ j, j < 6 → L j = true → σ j = σ' j) → stpI w0 B fl P0 S0 T0 p s t L σ w → stpI w0 B fl P0 S0 T0 p s t L' σ' w := by
 intro L L' σ σ' w hL hs h
 obtain ⟨h0, h1, h3, bx, h5, h6, h4⟩ := h
 unfold stpI
 rw [← hL 0 (by omega), ← hL 1 (by omega), ← hL 2 (by omega), ← hL 3 (by omega), ← hL 4 (by omega), ← hL 5 (by omega)]
 refine ⟨fun e => (hs 0 (by omega) e).symm.trans (h0 e), fun e => (hs 1 (by omega) e).symm.trans (h1 e), fun e => (hs 3 (by omega) e).symm.trans (h3 e), bx, fun e => ?_, h6, ?_⟩
 ·rw [← hs 5 (by omega) e]; exact h5 e
 ·split at h4
  ·next e => rw [if_pos e, ← hs 4 (by omega) e]; exact h4
  ·next e =>
   rw [if_neg e]
   split at h4
   ·next e2 => rw [if_pos e2, ← hs 2 (by omega) e2]; exact h4
   ·next e2 => rw [if_neg e2]; exact h4
theorem stpI.fr {w0 B : World} {fl : List It} {P0 S0 T0 : Value} {p : Pg} {s : StD} {t : Int} {L : Nat → Bool} {σ : Nat → Value} {w : World} (h : stpI w0 B fl P0 S0 T0 p s t L σ w) : ∃ bx, Fr w0 w (bx ++ fl) := by
 obtain ⟨-, -, -, bx, -, -, h4⟩ := h
 refine ⟨bx, ?_⟩
 split at h4
 ·obtain ⟨_, _, _, h⟩ := h4; exact h.fr
 ·split at h4
  ·obtain ⟨_, _, _, h⟩ := h4; exact h.fr
  ·exact h4.1
theorem stpI.val {w0 B : World} {fl : List It} {P0 S0 T0 : Value} {p : Pg} {s : StD} {t : Int} {L : Nat → Bool} {σ : Nat → Value} {w : World} (h : stpI w0 B fl P0 S0 T0 p s t L σ w) (k : Nat) (u : Value) (hk : (k = 0 ∧ u = P0) ∨ (k = 1 ∧ u = S0) ∨ (k = 3 ∧ u = T0)) : stpI w0 B fl P0 S0 T0 p s t (fun j => decide (j = k) || L j) (fun j => if j = k then u else σ j) w := by
 obtain ⟨h0, h1, h3, bx, h5, h6, h4⟩ := h
 rcases hk with ⟨rfl, rfl⟩ | ⟨rfl, rfl⟩ | ⟨rfl, rfl⟩
 ·exact ⟨by simp, by simpa using h1, by simpa using h3, bx, by simpa using h5, by simpa using h6, by simpa using h4⟩
 ·exact ⟨by simpa using h0, by simp, by simpa using h3, bx, by simpa using h5, by simpa using h6, by simpa using h4⟩
 ·exact ⟨by simpa using h0, by simpa using h1, by simp, bx, by simpa using h5, by simpa using h6, by simpa using h4⟩
theorem stpI.cp {w0 B : World} {fl : List It} {P0 S0 T0 : Value} {p : Pg} {s : StD} {t : Int} {L : Nat → Bool} {σ : Nat → Value} {w : World} (h : stpI w0 B fl P0 S0 T0 p s t L σ w) (e2 : L 2 = false) (e4 : L 4 = false) : Below B.heap.size B w ∧ ∀ (v' : StV) (L' : StL) (w' : World), StO [] w.heap.size w' v' L' s → NewB w.heap.size L' → Below w.heap.size w w' → stpI w0 B fl P0 S0 T0 p s t (fun j => decide (j = 2) || L j) (fun j => if j = 2 then v'.val else σ j) w' := by
 obtain ⟨h0, h1, h3, bx, h5, h6, h4⟩ := h
 rw [if_neg (by simp [e4]), if_neg (by simp [e2])] at h4
 refine ⟨h4.2, fun v' L' w' ho hn hb => ⟨by simpa using h0, by simpa using h1, by simpa using h3, bx, by simpa using h5, by simpa using h6, ?_⟩⟩
 show (if (decide ((4 : Nat) = 2) || L 4) = true then _ else if (decide ((2 : Nat) = 2) || L 2) = true then _ else _)
 rw [if_neg (by simp [e4]), if_pos (by simp)]
 exact ⟨v', L', if_pos rfl, Sf.gain h4.1 ho hn hb⟩
theorem stpI.dn {w0 B : World} {fl : List It} {P0 S0 T0 : Value} {p : Pg} {s : StD} {t : Int} {L : Nat → Bool} {σ : Nat → Value} {w : World} (h : stpI w0 B fl P0 S0 T0 p s t L σ w) (e2 : L 2 = true) (e4 : L 4 = false) : ∃ (bx : List It) (v' : StV) (L' : StL), σ 2 = v'.val ∧ Sf w0 w (bx ++ fl) v' L' s ∧ ∀ (v2 : StV) (L2 : StL) (w' : World), Sf w0 w' (bx ++ fl) v2 L2 (stepD p s t) → stpI w0 B fl P0 S0 T0 p s t (fun j => decide (j = 4) || L j) (fun j => if j = 4 then v2.val else σ j) w' := by
 obtain ⟨h0, h1, h3, bx, h5, h6, h4⟩ := h
 rw [if_neg (by simp [e4]), if_pos e2] at h4
 obtain ⟨v', L', e, h4⟩ := h4
 refine ⟨bx, v', L', e, h4, fun v2 L2 w' h2 => ⟨by simpa using h0, by simpa using h1, by simpa using h3, bx, by simpa using h5, by simpa using h6, ?_⟩⟩
 show (if (decide ((4 : Nat) = 4) || L 4) = true then _ else if (decide ((2 : Nat) = 4) || L 2) = true then _ else _)
 rw [if_pos (by simp)]
 exact ⟨v2, L2, if_pos rfl, h2⟩
theorem stpI.al {w0 B : World} {fl : List It} {P0 S0 T0 : Value} {p : Pg} {s : StD} {t : Int} {L : Nat → Bool} {σ : Nat → Value} {w : World} (h : stpI w0 B fl P0 S0 T0 p s t L σ w) (e5 : L 5 = false) : stpI w0 B fl P0 S0 T0 p s t (fun j => decide (j = 5) || L j) (fun j => if j = 5 then .pointer (some ⟨w.heap.size, 0, none⟩) else σ j) (w.alloc (.cells zC 44)) := by
 obtain ⟨h0, h1, h3, bx, h5, h6, h4⟩ := h
 obtain rfl := h6 e5
 refine ⟨by simpa using h0, by simpa using h1, by simpa using h3, [.blk w.heap.size zC 44], fun _ => ⟨_, if_pos rfl, rfl⟩, by simp, ?_⟩
 show (if (decide ((4 : Nat) = 5) || L 4) = true then _ else if (decide ((2 : Nat) = 5) || L 2) = true then _ else _)
 rw [show decide ((4 : Nat) = 5) = false from rfl, show decide ((2 : Nat) = 5) = false from rfl, Bool.false_or, Bool.false_or]
 split at h4
 ·next e => rw [if_pos e]; obtain ⟨v', L', e, h⟩ := h4; exact ⟨v', L', e, h.alloc _ _⟩
 ·next e =>
  rw [if_neg e]
  split at h4
  ·next e => rw [if_pos e]; obtain ⟨v', L', e, h⟩ := h4; exact ⟨v', L', e, h.alloc _ _⟩
  ·next e => rw [if_neg e]; exact ⟨h4.1.alloc _ _, h4.2.alloc h4.2.size _⟩
theorem specStep_sf (u : PV) (p : Pg) (v : StV) (L : StL) (s : StD) (t : Int) (w0 w : World) (l : List It) (F : Fr w0 w l) (hp : RdP w0 u p) (hr : StR w v L s) (hf : Run p s) (ht : t ∈ readyOf s) :
  Calls Try.prog 23 #[.agg #[.slice u.s u.ns u.cs, .slice u.g u.ng u.cg, .slice u.b u.nb u.cb, .slice u.r u.nr u.cr, .slice u.t u.nt u.ct], .agg #[.slice v.pl.a v.pl.n v.pl.c, .slice v.st.a v.st.n v.st.c, .slice v.se.a v.se.n v.se.c, .slice v.on.a v.on.n v.on.c, .slice v.gr.a v.gr.n v.gr.c, .slice v.ba.a v.ba.n v.ba.c, .slice v.ch.a v.ch.n v.ch.c, .slice v.sa.a v.sa.n v.sa.c, .int .i64 v.fl], .int .i64 t] w fun e w' => ∃ (v' : StV) (L' : StL), e = .returned (.tuple #[v'.val, .bool true]) ∧ Sf w0 w' l v' L' (stepD p s t) := by
 have HS := xH1 hr
 have HP := xH1 hp
 have HR := xH1 hf
 have HF := xH1 hf.fits
 have HT := xH1 (hf.fits.turn ht)
 have HZ := xH1 hf.fits.sm
 have HRD := xH1 ht
 have HST : Hid (Run p (stepD p s t)) := xH1 (hf.step (hf.fits.turn ht))
 have r8 : (readyOf s).length ≤ 8 := by
  have h1 := hf.fits.nst
  have h2 := (valid_small hf.fits.prog).2.2.2.2.1
  rw [ready_eq]
  split
  ·have := rdyTo_len s s.status.length; omega
  ·simp
 have hb0 : Below w.heap.size w (((w.alloc (.cells (pvC u) 31)).alloc (.cells (svC v) 44)).alloc (.cells zC 44)) := ((xB1.alloc (by simp) _).alloc (by simp) _).alloc (by simp; omega) _
 have F0 := ((F.alloc (pvC u) 31).alloc (svC v) 44).alloc zC 44
 simp only [World.size_alloc] at F0
 have HS2 := xH1 (HS.out.below hb0)
 clear hp hr hf ht F
 go_enter Try.func23, Try.ntmps23
 go_upto_region 1 with fail
 obtain ⟨W, hw, F⟩ := F0.named
 rw [← hw] at HS2 hb0 ⊢
 clear hw F0
 have cs := F.c9 1 rfl
 have cp := F.c5 2 rfl
 go_wp2_with fail
 refine (specReadyThreads_ok u p v L s _ (HP.out.below F.bel) HS2.out HF.out).mono ?_
 rintro e w1 ⟨a1, c1, rfl, ho, hb⟩
 replace HS2 := xH1 (HS2.out.below hb)
 have F2 := F.row hb ho
 replace F := F.call hb
 clear hb ho cs cp hb0
 go_wp2_with fail
 refine (specAt_any a1 _ c1 (readyOf s) t _ rfl (by unfold maxLen; omega) (F2.rdRow 0 rfl)).mono ?_
 rintro e wz ⟨rfl, hw⟩
 obtain rfl := hw
 have hfi : 0 ≤ findI (readyOf s) t := (findI_mem HRD.out).1
 clear F2
 go_upto_region 3 with fail
 obtain ⟨W1, hw, F1⟩ := F.named
 rw [← hw] at HS2 ⊢
 clear hw F
 refine wp_region_inv 6 (stpI w0 W1 (.blk (w.heap.size + 1 + 1) zC 44 :: .blk (w.heap.size + 1) (svC v) 44 :: .blk w.heap.size (pvC u) 31 :: l) (.agg #[.slice u.s u.ns u.cs, .slice u.g u.ng u.cg, .slice u.b u.nb u.cb, .slice u.r u.nr u.cr, .slice u.t u.nt u.ct]) (.agg #[.slice v.pl.a v.pl.n v.pl.c, .slice v.st.a v.st.n v.st.c, .slice v.se.a v.se.n v.se.c, .slice v.on.a v.on.n v.on.c, .slice v.gr.a v.gr.n v.gr.c, .slice v.ba.a v.ba.n v.ba.c, .slice v.ch.a v.ch.n v.ch.c, .slice v.sa.a v.sa.n v.sa.c, .int .i64 v.fl]) (.int .i64 t) p s t) stpI.cong (fun σ => ⟨nofun, nofun, nofun, [], nofun, fun _ => rfl, F1.drew, xB1.drew⟩) ?_ ?_
 ·refine ⟨?_, ?_, ?_, ?_, ?_, ?_, trivial⟩ <;> intro ρ w2 L hI hw hny ho
  ·obtain ⟨bx, F⟩ := hI.fr
   have c := F.c5 _ ((at_app bx _ 2).trans rfl)
   have d : ρ (.tmp 3) = _ := ho (.tmp 3) rfl
   exact gives_val (by go_simp <;> rfl) (hI.val 0 _ (.inl ⟨rfl, rfl⟩))
  ·obtain ⟨bx, F⟩ := hI.fr
   have c := F.c9 _ ((at_app bx _ 1).trans rfl)
   have d : ρ (.tmp 4) = _ := ho (.tmp 4) rfl
   exact gives_val (by go_simp <;> rfl) (hI.val 1 _ (.inr (.inl ⟨rfl, rfl⟩)))
  ·obtain ⟨hB, hk⟩ := hI.cp (hny 2 _ rfl rfl) (hny 4 _ rfl rfl)
   have d : ρ (.tmp 17) = _ := hI.2.1 (hw 1 (by decide))
   have df : ρ (.func 38) = _ := ho (.func 38) rfl
   exact gives_call (by go_simp <;> rfl) ((specState_copy v _ s w2 (HS2.out.below hB) HZ.out).mono fun e w' h => by
    obtain ⟨v', L', rfl, ho, hn, hb⟩ := h
    exact ⟨_, rfl, hk v' L' w' ho hn hb⟩)
  ·have d : ρ (.tmp 2) = _ := ho (.tmp 2) rfl
   exact gives_val (by go_simp <;> rfl) (hI.val 3 _ (.inr (.inr ⟨rfl, rfl⟩)))
  ·obtain ⟨bx, v', L', d2, h2, hk⟩ := hI.dn (hw 2 (by decide)) (hny 4 _ rfl rfl)
   replace d2 : ρ (.tmp 18) = _ := d2
   have d0 : ρ (.tmp 16) = _ := hI.1 (hw 0 (by decide))
   have d3 : ρ (.tmp 19) = _ := hI.2.2.1 (hw 3 (by decide))
   have df : ρ (.func 37) = _ := ho (.func 37) rfl
   exact gives_call (by go_simp <;> rfl) ((specDo7_ok u p v' L' s t w0 w2 (bx ++ _) h2 HP.out HR.out HT.out).mono fun e w' h => by
    obtain ⟨v2, L2, rfl, h⟩ := h
    exact ⟨_, rfl, hk v2 L2 w' h⟩)
  ·exact gives_val (by go_simp <;> rfl) (hI.al (hny 5 _ rfl rfl))
 intro vs w2 hlen hI
 obtain ⟨x0, x1, x2, x3, x4, x5, rfl⟩ : ∃ x0 x1 x2 x3 x4 x5, vs = [x0, x1, x2, x3, x4, x5] := by
  match vs, hlen with
  | [x0, x1, x2, x3, x4, x5], _ => exact ⟨_, _, _, _, _, _, rfl⟩
 obtain ⟨-, -, -, bx, h5, -, h4⟩ := hI
 obtain ⟨g, e5, rfl⟩ := h5 rfl
 replace e5 : x5 = _ := e5
 rw [if_pos rfl] at h4
 obtain ⟨v', L', e4, h4⟩ := h4
 replace e4 : x4 = .agg #[.slice v'.pl.a v'.pl.n v'.pl.c, .slice v'.st.a v'.st.n v'.st.c, .slice v'.se.a v'.se.n v'.se.c, .slice v'.on.a v'.on.n v'.on.c, .slice v'.gr.a v'.gr.n v'.gr.c, .slice v'.ba.a v'.ba.n v'.ba.c, .slice v'.ch.a v'.ch.n v'.ch.c, .slice v'.sa.a v'.sa.n v'.sa.c, .int .i64 v'.fl] := e4
 clear hlen h5
 subst e4 e5
 refine rk_end ?_
 clear F1 HS2 HS
 have c := h4.c9 0 rfl
 go_upto_region 4 with fail
 have h5 := h4.set9 0 rfl (.slice v'.pl.a v'.pl.n v'.pl.c) (.slice v'.st.a v'.st.n v'.st.c) (.slice v'.se.a v'.se.n v'.se.c) (.slice v'.on.a v'.on.n v'.on.c) (.slice v'.gr.a v'.gr.n v'.gr.c) (.slice v'.ba.a v'.ba.n v'.ba.c) (.slice v'.ch.a v'.ch.n v'.ch.c) (.slice v'.sa.a v'.sa.n v'.sa.c) (.int .i64 v'.fl)
 obtain ⟨W2, hw, h6⟩ := h5.named
 rw [← hw]
 clear hw h5 h4 c
 have h64 : v'.sa.n ≤ 64 := by rw [h6.rd.sa.len]; exact HST.out.fits.nsa
 have c0 := h6.c9 0 rfl
 have c3 := h6.c5 3 rfl
 go_wp2_with fail
 refine (specFits_ok u p v' L' (stepD p s t) _ (HP.out.below h6.bel) h6.rd HST.out.fits).mono ?_
 rintro e W3 ⟨rfl, hb⟩
 have h7 := h6.call hb
 clear h6 hb c0 c3
 have c0 := h7.c9 0 rfl
 have c1 := h7.c9 1 rfl
 have h8 := h7.set9 1 rfl (.slice v'.pl.a v'.pl.n v'.pl.c) (.slice v'.st.a v'.st.n v'.st.c) (.slice v'.se.a v'.se.n v'.se.c) (.slice v'.on.a v'.on.n v'.on.c) (.slice v'.gr.a v'.gr.n v'.gr.c) (.slice v'.ba.a v'.ba.n v'.ba.c) (.slice v'.ch.a v'.ch.n v'.ch.c) (.slice v'.sa.a v'.sa.n v'.sa.c) (.int .i64 v'.fl)
 go_wp2
 exact bodyPost_ret (v := .tuple #[v'.val, .bool true]) (by simp [results, Try.results23, go_sem, h8.c9 1 rfl, StV.val, SlV.val]) rfl ⟨v', L', rfl, h8.sub ((((List.Sublist.refl l).cons _).cons _).cons _ |>.cons _)⟩
end Go.Proofs.Ytfpgijihiifogaa
