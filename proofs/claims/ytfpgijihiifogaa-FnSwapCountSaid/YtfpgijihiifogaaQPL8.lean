/- Part of a proof: RL8 RL8K. -/
import Derived.Test.YtfpgijihiifogaaQRChoices
set_option maxRecDepth 100000
set_option maxHeartbeats 16000000
namespace Go.Proofs.Ytfpgijihiifogaa
open Go.RowKit
theorem l8Choices_any (R : Nat) (a : Option Addr) (n c : Nat) (bs : List Int) (pos : Int) (w : World) (h : Rdr w R a n c bs pos) (hp : pos ≤ 1099511600000) :
  Calls Try.prog 14 #[.pointer (some ⟨R, 0, none⟩)] w fun e w' => ∃ (a2 : Option Addr) (m c2 : Nat) (xs : List Int) (pos' : Int), e = .returned (.slice a2 m c2) ∧ w'.ownsRow w.heap.size 3 1 (.slice a2 m c2) m (ints xs) ∧ m ≤ 16 ∧ Rdr w' R a n c bs pos' ∧ pos' ≤ pos + 18 ∧ w.grownBy w' (some R) := by
 have hRw := h.lt
 have b0 : Below w.heap.size w ((w.alloc (.cells #[] 3)).alloc (.cells (ints [6, 4, 10, 2, 0, 15]).toArray 3)) := (xA1).alloc (by simp) _
 have k1 : Blk ((w.alloc (.cells #[] 3)).alloc (.cells (ints [6, 4, 10, 2, 0, 15]).toArray 3)) (w.heap.size + 1) (ints [6, 4, 10, 2, 0, 15]).toArray 3 := by have := Blk.new (w.alloc (.cells #[] 3)) (ints [6, 4, 10, 2, 0, 15]).toArray 3; simpa using this
 have o0 := owns_below (owns_empty w 3 1) ((Below.refl (w.alloc (.cells #[] 3)).heap.size _).alloc xL1 (.cells (ints [6, 4, 10, 2, 0, 15]).toArray 3))
 have h1 := h.below b0
 have G0 := grown_of_below b0 (some R)
 clear b0 h
 go_enter Try.func14, Try.ntmps14
 go_wp2_with fail
 refine (num_blk R a n c bs pos 6 [6, 4, 10, 2, 0, 15] _ h1 (by omega) rfl (by omega) (by omega) (w.heap.size + 1) _ k1 rfl (by omega)).mono ?_
 rintro e w1 ⟨v, rfl, hv, h2, g1⟩
 have G1 := grown_trans G0 g1
 have hvb : 0 ≤ v ∧ v ≤ 15 := by simp at hv; omega
 have o1 := owns_grown o0 g1 (by simp [rowOf]; omega)
 obtain ⟨V, rfl⟩ := Int.eq_ofNat_of_zero_le hvb.1
 clear G0 g1 h1 k1 o0 hv
 go_wp2
 go_loopw [3, 4] (fun q i wr => ∃ (k : Nat) (a2 : Option Addr) (m c2 : Nat) (xs : List Int) (pos' : Int), q = .slice a2 m c2 ∧ i = .int .i64 k ∧ m + k ≤ 15 ∧ wr.ownsRow w.heap.size 3 1 (.slice a2 m c2) m (ints xs) ∧ Rdr wr R a n c bs pos' ∧ pos' + k ≤ pos + 16 ∧ w.grownBy wr (some R)) (fun _ i _ => (intOf i).toNat)
 case atStart => exact ⟨V, _, _, _, [], _, rfl, rfl, by omega, o1, h2, by omega, G1⟩
 case round =>
  clear o1 h2 G1 hvb
  obtain ⟨k, a2, m, c2, xs, pos', rfl, rfl, hm, own, h, hpos, G⟩ := hrel
  by_cases hk : 0 < k
  ·go_wp2_with fail
   refine (pick_some R a n c bs pos' 4 _ h (by omega) (by omega)).mono ?_
   rintro e w2 ⟨x, rfl, hx, h2, g2, -⟩
   have own2 := owns_grown own g2 (fun q h1 h3 => by have := (owns_row own q h1).1; cases h3; omega)
   have G2 := grown_trans G g2
   clear own h G g2
   have b3 : Below w2.heap.size w2 (w2.alloc (.cells #[.int .i64 x] 3)) := xA1
   have own3 := owns_below own2 b3
   have h3 := h2.below b3
   have G3 := grown_trans G2 (grown_of_below b3 (some R))
   have kb : Blk (w2.alloc (.cells #[.int .i64 x] 3)) w2.heap.size #[.int .i64 x] 3 := Blk.new _ _ _
   have hsz : w.heap.size ≤ (w2.alloc (.cells #[.int .i64 x] 3)).heap.size := G3.size
   clear own2 h2 G2 b3
   go_wp2_with (at_builtin; refine wpList_append_hn (news := ints [(x : Int)]) rfl _ _ _ rfl Try.underlying23 info_int rfl (by decide) rfl own3 rfl rfl (Rd.of_blk kb) (ints_one _) (by omega) (by decide) hsz ?_; intro a9 c9 w9 own9 hg9 hn9)
   go_roundw
   case rel => exact ⟨k - 1, a9, m + 1, c9, xs ++ [(x : Int)], pos' + 1, rfl, by go_num, by omega, by rw [ints_app]; exact own9, h3.gr hg9 (fun q hq => by have := (owns_row own3 q hq).1; omega), by omega, grown_new G3 hg9 (fun q hq => (owns_row own3 q hq).1)⟩
   case measure => simp [intOf]; omega
  ·have hk0 : k = 0 := by omega
   subst hk0
   go_wp2_with fail
   refine (pick_some R a n c bs pos' 24 _ h (by omega) (by omega)).mono ?_
   rintro e w2 ⟨x, rfl, hx, h2, g2, -⟩
   have own2 := owns_grown own g2 (fun q h1 h3 => by have := (owns_row own q h1).1; cases h3; omega)
   have G2 := grown_trans G g2
   clear own h G g2
   by_cases hx0 : x = 0
   ·have t0 : ((x : Int) == 0) = true := by rw [hx0]; rfl
    have b3 : Below w2.heap.size w2 (w2.alloc (.cells #[.int .i64 (-1)] 3)) := xA1
    have own3 := owns_below own2 b3
    have h3 := h2.below b3
    have G3 := grown_trans G2 (grown_of_below b3 (some R))
    have kb : Blk (w2.alloc (.cells #[.int .i64 (-1)] 3)) w2.heap.size #[.int .i64 (-1)] 3 := Blk.new _ _ _
    have hsz : w.heap.size ≤ (w2.alloc (.cells #[.int .i64 (-1)] 3)).heap.size := G3.size
    clear own2 h2 G2 b3
    go_wp2_with (at_builtin; refine wpList_append_hn (news := ints [(-1 : Int)]) rfl _ _ _ rfl Try.underlying23 info_int rfl (by decide) rfl own3 rfl rfl (Rd.of_blk kb) (ints_one _) (by omega) (by decide) hsz ?_; intro a9 c9 w9 own9 hg9 hn9)
    go_ret
    exact ⟨a9, m + 1, c9, xs ++ [-1], pos' + 1, rfl, by rw [ints_app]; exact own9, by omega, h3.gr hg9 (fun q hq => by have := (owns_row own3 q hq).1; omega), by omega, grown_new G3 hg9 (fun q hq => (owns_row own3 q hq).1)⟩
   ·have t0 : ((x : Int) == 0) = false := by simpa using hx0
    go_wp2
    go_ret
    exact ⟨a2, m, c2, xs, pos' + 1, rfl, own2, by omega, h2, by omega, G2⟩
structure RunV where
 s : StV
 a : Option Addr
 m : Nat
 c : Nat
 tr : List Int
 b : Bool
def RunV.cs (q : RunV) : Array Value := #[.slice q.s.pl.a q.s.pl.n q.s.pl.c, .slice q.s.st.a q.s.st.n q.s.st.c, .slice q.s.se.a q.s.se.n q.s.se.c, .slice q.s.on.a q.s.on.n q.s.on.c, .slice q.s.gr.a q.s.gr.n q.s.gr.c, .slice q.s.ba.a q.s.ba.n q.s.ba.c, .slice q.s.ch.a q.s.ch.n q.s.ch.c, .slice q.s.sa.a q.s.sa.n q.s.sa.c, .int .i64 q.s.fl, .slice q.a q.m q.c]
def RunV.tup (q : RunV) : Value := .tuple #[.agg q.cs, .bool q.b]
structure l8I (W0 : World) (R : Nat) (a : Option Addr) (n c : Nat) (bs : List Int) (pos : Int) (P0 : Value) (L : Nat → Bool) (σ : Nat → Value) (w : World) : Prop where
 k0 : L 0 = true → σ 0 = P0
 k1 : L 1 = true → σ 1 = .pointer (some ⟨R, 0, none⟩)
 rd : ∃ pos1, Rdr w R a n c bs pos1 ∧ pos1 ≤ pos + 18 ∧ (L 2 = false → pos1 ≤ pos)
 gr : W0.grownBy w (some R)
 k2 : L 2 = true → L 3 = false → ∃ a2 m c2 xs, σ 2 = .slice a2 m c2 ∧ Rd w a2 (ints xs) ∧ xs.length = m ∧ m ≤ 16
 d4 : L 4 = true → L 3 = true
 d5 : L 5 = true ∨ L 6 = true ∨ L 8 = true → L 4 = true
 d8 : L 8 = true → L 7 = true
 q : ∃ q : RunV, (L 3 = true → σ 3 = q.tup ∧ w.ownsRow W0.heap.size 3 1 (.slice q.a q.m q.c) q.m (ints q.tr) ∧ q.m ≤ 16) ∧ (L 4 = true → σ 4 = q.tup) ∧ (L 5 = true → σ 5 = .agg q.cs) ∧ (L 6 = true → σ 6 = .bool q.b) ∧ (L 7 = true → ∃ g, W0.heap.size ≤ g ∧ σ 7 = .pointer (some ⟨g, 0, none⟩) ∧ Blk w g (if L 8 = true then q.cs else z10) 46)
section
variable {W0 : World} {R : Nat} {a : Option Addr} {n c : Nat} {bs : List Int} {pos : Int} {P0 : Value} {L : Nat → Bool} {σ : Nat → Value} {w : World}
theorem l8I.cong : ∀ L L' σ σ' w, (∀ j, j < 10 → L j = L' j) → (∀ j, j < 10 → L j = true → σ j = σ' j) → l8I W0 R a n c bs pos P0 L σ w → l8I W0 R a n c bs pos P0 L' σ' w := by
 intro L L' σ σ' w hL hs h
 obtain ⟨k0, k1, rd, gr, k2, d4, d5, d8, q, q3, q4, q5, q6, q7⟩ := h
 have e0 := hL 0 (by omega)
 have e1 := hL 1 (by omega)
 have e2 := hL 2 (by omega)
 have e3 := hL 3 (by omega)
 have e4 := hL 4 (by omega)
 have e5 := hL 5 (by omega)
 have e6 := hL 6 (by omega)
 have e7 := hL 7 (by omega)
 have e8 := hL 8 (by omega)
 refine ⟨?_, ?_, ?_, gr, ?_, ?_, ?_, ?_, q, ?_, ?_, ?_, ?_, ?_⟩
 ·rw [← e0]; exact fun e => (hs 0 (by omega) e).symm.trans (k0 e)
 ·rw [← e1]; exact fun e => (hs 1 (by omega) e).symm.trans (k1 e)
 ·rw [← e2]; exact rd
 ·rw [← e2, ← e3]
  intro e h
  rw [← hs 2 (by omega) e]
  exact k2 e h
 ·rw [← e4, ← e3]; exact d4
 ·rw [← e4, ← e5, ← e6, ← e8]; exact d5
 ·rw [← e7, ← e8]; exact d8
 ·rw [← e3]
  intro e
  rw [← hs 3 (by omega) e]
  exact q3 e
 ·rw [← e4]; exact fun e => (hs 4 (by omega) e).symm.trans (q4 e)
 ·rw [← e5]; exact fun e => (hs 5 (by omega) e).symm.trans (q5 e)
 ·rw [← e6]; exact fun e => (hs 6 (by omega) e).symm.trans (q6 e)
 ·rw [← e7, ← e8]
  intro e
  rw [← hs 7 (by omega) e]
  exact q7 e
theorem l8I.start (h : Rdr W0 R a n c bs pos) (σ : Nat → Value) : l8I W0 R a n c bs pos P0 (fun _ => false) σ W0.drew := by
 have hb : Below W0.heap.size W0 W0.drew := xB1.drew
 exact ⟨nofun, nofun, ⟨pos, h.below hb, by omega, fun _ => Int.le_refl _⟩, grown_of_below hb _, nofun, nofun, by simp, nofun, ⟨stVZ, none, 0, 0, [], true⟩, nofun, nofun, nofun, nofun, nofun⟩
theorem l8I.val (h : l8I W0 R a n c bs pos P0 L σ w) (k : Nat) (u : Value) (hk : (k = 0 ∧ u = P0) ∨ (k = 1 ∧ u = .pointer (some ⟨R, 0, none⟩)) ∨ k = 9) : l8I W0 R a n c bs pos P0 (fun j => decide (j = k) || L j) (fun j => if j = k then u else σ j) w := by
 obtain ⟨k0, k1, rd, gr, k2, d4, d5, d8, q⟩ := h
 rcases hk with ⟨rfl, rfl⟩ | ⟨rfl, rfl⟩ | rfl
 ·exact ⟨by simp, by simpa using k1, by simpa using rd, gr, by simpa using k2, by simpa using d4, by simpa using d5, by simpa using d8, by simpa using q⟩
 ·exact ⟨by simpa using k0, by simp, by simpa using rd, gr, by simpa using k2, by simpa using d4, by simpa using d5, by simpa using d8, by simpa using q⟩
 ·exact ⟨by simpa using k0, by simpa using k1, by simpa using rd, gr, by simpa using k2, by simpa using d4, by simpa using d5, by simpa using d8, by simpa using q⟩
theorem l8I.mv (h : l8I W0 R a n c bs pos P0 L σ w) (e : L 3 = true) : ∃ q : RunV, σ 3 = q.tup ∧ l8I W0 R a n c bs pos P0 (fun j => decide (j = 4) || L j) (fun j => if j = 4 then q.tup else σ j) w := by
 obtain ⟨k0, k1, rd, gr, k2, d4, d5, d8, q, q3, q4, q5, q6, q7⟩ := h
 exact ⟨q, (q3 e).1, by simpa using k0, by simpa using k1, by simpa using rd, gr, by simpa using k2, by simp [e], by simp, by simpa using d8, q, by simpa using q3, by simp, by simpa using q5, by simpa using q6, by simpa using q7⟩
theorem l8I.ex (h : l8I W0 R a n c bs pos P0 L σ w) (e : L 4 = true) : ∃ q : RunV, σ 4 = q.tup ∧ l8I W0 R a n c bs pos P0 (fun j => decide (j = 5) || L j) (fun j => if j = 5 then .agg q.cs else σ j) w ∧ l8I W0 R a n c bs pos P0 (fun j => decide (j = 6) || L j) (fun j => if j = 6 then .bool q.b else σ j) w := by
 obtain ⟨k0, k1, rd, gr, k2, d4, d5, d8, q, q3, q4, q5, q6, q7⟩ := h
 refine ⟨q, q4 e, ?_, ?_⟩
 ·exact ⟨by simpa using k0, by simpa using k1, by simpa using rd, gr, by simpa using k2, by simpa using d4, by simp [e], by simpa using d8, q, by simpa using q3, by simpa using q4, by simp, by simpa using q6, by simpa using q7⟩
 ·exact ⟨by simpa using k0, by simpa using k1, by simpa using rd, gr, by simpa using k2, by simpa using d4, by simp [e], by simpa using d8, q, by simpa using q3, by simpa using q4, by simpa using q5, by simp, by simpa using q7⟩
theorem l8I.ch (h : l8I W0 R a n c bs pos P0 L σ w) (hR : R < W0.heap.size) (e2 : L 2 = false) (e3 : L 3 = false) : ∃ pos1, Rdr w R a n c bs pos1 ∧ pos1 ≤ pos ∧ ∀ (a2 : Option Addr) (m c2 : Nat) (xs : List Int) (pos' : Int) (w' : World), w'.ownsRow w.heap.size 3 1 (.slice a2 m c2) m (ints xs) → m ≤ 16 → Rdr w' R a n c bs pos' → pos' ≤ pos1 + 18 → w.grownBy w' (some R) → l8I W0 R a n c bs pos P0 (fun j => decide (j = 2) || L j) (fun j => if j = 2 then .slice a2 m c2 else σ j) w' := by
 obtain ⟨k0, k1, ⟨pos1, hr, hp, hp1⟩, gr, k2, d4, d5, d8, q, q3, q4, q5, q6, q7⟩ := h
 have e4 : L 4 = false := by cases h : L 4 with
  | false => rfl
  | true => rw [d4 h] at e3; cases e3
 have e5 : ∀ P : Prop, L 5 = true ∨ L 6 = true ∨ L 8 = true → P := fun P h => by rw [d5 h] at e4; cases e4
 refine ⟨pos1, hr, hp1 e2, fun a2 m c2 xs pos' w' ho hm hr' hp' hg => ⟨by simpa using k0, by simpa using k1, ⟨pos', hr', by have := hp1 e2; omega, by simp⟩, grown_trans gr hg, fun _ _ => ⟨a2, m, c2, xs, by simp, Rd.of_owns ho, by have := ho.1; simpa using this, hm⟩, by simpa using d4, by simpa using d5, by simpa using d8, q, by simp [e3], by simp [e4], by simpa using q5, by simpa using q6, ?_⟩⟩
 intro e
 obtain ⟨g, hg1, hg2, hg3⟩ := q7 (by simpa using e)
 refine ⟨g, hg1, by simpa using hg2, ?_⟩
 have := hg3.grown hg (by simp; omega)
 simpa using this
theorem l8I.run (h : l8I W0 R a n c bs pos P0 L σ w) (e2 : L 2 = true) (e3 : L 3 = false) : W0.grownBy w (some R) ∧ ∃ (a2 : Option Addr) (m c2 : Nat) (xs : List Int), σ 2 = .slice a2 m c2 ∧ Rd w a2 (ints xs) ∧ xs.length = m ∧ m ≤ 16 ∧ ∀ e w', chQ w m e w' → ∃ u, e = .returned u ∧ l8I W0 R a n c bs pos P0 (fun j => decide (j = 3) || L j) (fun j => if j = 3 then u else σ j) w' := by
 obtain ⟨k0, k1, ⟨pos1, hr, hp, hp1⟩, gr, k2, d4, d5, d8, q, q3, q4, q5, q6, q7⟩ := h
 have e4 : L 4 = false := by cases h : L 4 with
  | false => rfl
  | true => rw [d4 h] at e3; cases e3
 have e5 : ∀ P : Prop, L 5 = true ∨ L 6 = true ∨ L 8 = true → P := fun P h => by rw [d5 h] at e4; cases e4
 obtain ⟨a2, m, c2, xs, hs, hd, hl, hm⟩ := k2 e2 e3
 refine ⟨gr, a2, m, c2, xs, hs, hd, hl, hm, fun e w' h => ?_⟩
 obtain ⟨v, at', mt, ct, tr, b, rfl, ho, hmt, hb⟩ := h
 refine ⟨_, rfl, by simpa using k0, by simpa using k1, ⟨pos1, hr.below hb, hp, by simp [e2]⟩, grown_trans gr (grown_of_below hb _), by simp, by simp, ?_, by simpa using d8, ⟨v, at', mt, ct, tr, b⟩, fun _ => ⟨by simp [RunV.tup, RunV.cs], owns_mono ho gr.size, by show mt ≤ 16; omega⟩, by simp [e4], ?_, ?_, ?_⟩
 ·intro h
  exact e5 _ (by simpa using h)
 ·intro h
  exact e5 _ (.inl (by simpa using h))
 ·intro h
  exact e5 _ (.inr (.inl (by simpa using h)))
 ·intro e
  obtain ⟨g, hg1, hg2, hg3⟩ := q7 (by simpa using e)
  refine ⟨g, hg1, by simpa using hg2, ?_⟩
  have := hg3.below hb
  have e8 : L 8 = false := by cases h : L 8 with
   | false => rfl
   | true => exact e5 _ (.inr (.inr h))
  simpa [e8] using this
theorem l8I.al (h : l8I W0 R a n c bs pos P0 L σ w) (e8 : L 8 = false) : l8I W0 R a n c bs pos P0 (fun j => decide (j = 7) || L j) (fun j => if j = 7 then .pointer (some ⟨w.heap.size, 0, none⟩) else σ j) (w.alloc (.cells z10 46)) := by
 obtain ⟨k0, k1, ⟨pos1, hr, hp, hp1⟩, gr, k2, d4, d5, d8, q, q3, q4, q5, q6, q7⟩ := h
 have hb : Below w.heap.size w (w.alloc (.cells z10 46)) := xA1
 refine ⟨by simpa using k0, by simpa using k1, ⟨pos1, hr.below hb, hp, by simpa using hp1⟩, grown_trans gr (grown_of_below hb _), ?_, by simpa using d4, by simpa using d5, by simp, q, ?_, by simpa using q4, by simpa using q5, by simpa using q6, fun _ => ⟨w.heap.size, gr.size, by simp, ?_⟩⟩
 ·intro e2 e3
  obtain ⟨a2, m, c2, xs, hs, hd, hl⟩ := k2 (by simpa using e2) (by simpa using e3)
  exact ⟨a2, m, c2, xs, by simpa using hs, hd.below hb, hl⟩
 ·intro e
  obtain ⟨h1, h2, h3⟩ := q3 (by simpa using e)
  exact ⟨by simpa using h1, owns_below h2 hb, h3⟩
 ·have := Blk.new w z10 46
  simpa [e8] using this
theorem l8I.st (h : l8I W0 R a n c bs pos P0 L σ w) (hR : R < W0.heap.size) (e5 : L 5 = true) (e7 : L 7 = true) (e8 : L 8 = false) : ∃ (q : RunV) (g : Nat), σ 5 = .agg q.cs ∧ σ 7 = .pointer (some ⟨g, 0, none⟩) ∧ Blk w g z10 46 ∧ ∀ u, l8I W0 R a n c bs pos P0 (fun j => decide (j = 8) || L j) (fun j => if j = 8 then u else σ j) (w.setRow g q.cs) := by
 obtain ⟨k0, k1, ⟨pos1, hr, hp, hp1⟩, gr, k2, d4, d5, d8, q, q3, q4, q5, q6, q7⟩ := h
 obtain ⟨g, hg1, hg2, hg3⟩ := q7 e7
 rw [if_neg (by simp [e8])] at hg3
 have hg : w.grownBy (w.setRow g q.cs) (some g) := ⟨rfl, rfl, rfl, by simp, fun i _ hi => setRow_other _ _ _ _ fun e => hi (by rw [e])⟩
 have e4 := d5 (.inl e5)
 refine ⟨q, g, q5 e5, hg2, hg3, fun u => ⟨by simpa using k0, by simpa using k1, ⟨pos1, hr.gr hg fun k e => by cases e; omega, hp, by simpa using hp1⟩, grown_new gr hg fun k e => by cases e; exact hg1, by simp [d4 e4], by simpa using d4, by simp [e4], by simp [e7], q, ?_, by simpa using q4, by simpa using q5, by simpa using q6, fun _ => ⟨g, hg1, by simpa using hg2, ?_⟩⟩⟩
 ·intro e
  obtain ⟨h1, h2, h3⟩ := q3 (by simpa using e)
  exact ⟨by simpa using h1, owns_grown h2 hg (fun q h1 h3 => by cases h3; exact blk_owns hg3 h2 (by decide) h1), h3⟩
 ·rw [if_pos (by simp)]
  exact setRow_heap _ _ _ _ _ _ hg3
end
end Go.Proofs.Ytfpgijihiifogaa
