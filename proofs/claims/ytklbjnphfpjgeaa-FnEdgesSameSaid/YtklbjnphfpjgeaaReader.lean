/- The reader of the draws: l13Open, pick, num. What it gives is some number within its bounds; which one does not matter. -/
import Derived.Test.YtklbjnphfpjgeaaInts
namespace Go.Proofs.Ytklbjnphfpjgeaa
open Go.RowKit

abbrev bytesV (bs : List Int) : List Value := bs.map (Value.int .u8)

/-- Block R is a reader, at place p of its bytes. -/
structure Rdr (w : World) (R : Nat) (a : Option Addr) (n c : Nat) (bs : List Int) (p : Int) : Prop where
  at_ : w.heap[R]? = some (.cells #[.slice a n c, .int .i64 p] 59 (0, 0))
  rd : Rd w a (bytesV bs)
  len : bs.length = n
  few : n ≤ 2000
  pos : 0 ≤ p
  byte : ∀ b ∈ bs, 0 ≤ b ∧ b ≤ 255
  apart : n = 0 ∨ ∃ k, rowOf a = some k ∧ k < R

section
variable {w w' : World} {R : Nat} {a : Option Addr} {n c : Nat} {bs : List Int} {p : Int}

theorem Rdr.lt (h : Rdr w R a n c bs p) : R < w.heap.size := (Array.getElem?_eq_some_iff.1 h.at_).1
theorem rd_grown_or {cs : List Value} {row : Option Nat} (h : Rd w a cs) (hg : w.grownBy w' row) (h2 : cs.length = 0 ∨ rowOf a ≠ row) : Rd w' a cs := by
  rcases h2 with h2 | h2
  · exact .inl (List.eq_nil_of_length_eq_zero h2)
  · exact h.grown hg (.inr h2)
theorem Rdr.grown {row : Option Nat} (h : Rdr w R a n c bs p) (hg : w.grownBy w' row) (h1 : row ≠ some R) (h2 : n = 0 ∨ rowOf a ≠ row) : Rdr w' R a n c bs p :=
  ⟨by rw [hg.block R h.lt (fun e => h1 e.symm)]; exact h.at_, rd_grown_or h.rd hg (by rw [List.length_map, h.len]; exact h2), h.len, h.few, h.pos, h.byte, h.apart⟩
theorem Rdr.below (h : Rdr w R a n c bs p) (hb : Below w.heap.size w w') : Rdr w' R a n c bs p :=
  ⟨by rw [hb.block R h.lt]; exact h.at_, h.rd.below hb, h.len, h.few, h.pos, h.byte, h.apart⟩
theorem Rdr.cell0 (h : Rdr w R a n c bs p) : w.cell? ⟨R, 0, none⟩ = some (.slice a n c) := by simp [World.cell?, h.at_]
theorem Rdr.cell1 (h : Rdr w R a n c bs p) : w.cell? ⟨R, 1, none⟩ = some (.int .i64 p) := by simp [World.cell?, h.at_]
theorem Rdr.fz (h : Rdr w R a n c bs p) (j : Nat) : w.frozen? ⟨R, j, none⟩ = false := by
  simp [World.frozen?, h.at_]
theorem Rdr.move (h : Rdr w R a n c bs p) (d : Nat) : Rdr ((w.setCell ⟨R, 1, none⟩ (.int .i64 (p + 1))).drewN d) R a n c bs (p + 1) ∧ w.grownBy ((w.setCell ⟨R, 1, none⟩ (.int .i64 (p + 1))).drewN d) (some R) := by
  have hg : w.grownBy ((w.setCell ⟨R, 1, none⟩ (.int .i64 (p + 1))).drewN d) (some R) :=
    ⟨rfl, rfl, rfl, by show _ ≤ (w.setCell _ _).heap.size; simp, fun k _ hk => Below.heap_setCell _ _ _ _ (fun e => hk (by rw [e]))⟩
  refine ⟨⟨?_, ?_, h.len, h.few, by have := h.pos; omega, h.byte, h.apart⟩, hg⟩
  · show ((w.setCell ⟨R, 1, none⟩ (.int .i64 (p + 1))).heap)[R]? = _
    rw [heap_setCell_same w R 1 _ _ _ h.at_]; rfl
  · exact rd_grown_or h.rd hg (by
      rw [List.length_map, h.len]
      rcases h.apart with h0 | ⟨k, h1, h2⟩
      · exact .inl h0
      · exact .inr (fun e => by rw [h1] at e; cases e; omega))

/-- A step that writes what lies behind the reader. -/
theorem Rdr.gr {row : Option Nat} (h : Rdr w R a n c bs p) (hg : w.grownBy w' row) (hr : ∀ k, row = some k → R < k) : Rdr w' R a n c bs p :=
  h.grown hg (fun e => by have := hr _ e; omega) (by
    rcases h.apart with h0 | ⟨k, h1, h2⟩
    · exact .inl h0
    · exact .inr (fun e => by rw [h1] at e; have := hr k e.symm; omega))
end

theorem xor_i64 (x y : Int) (h1 : 0 ≤ x) (h2 : x < 4611686018427387904) (h3 : 0 ≤ y) (h4 : y < 4611686018427387904) : 0 ≤ bits .xor .i64 x y ∧ bits .xor .i64 x y < 4611686018427387904 := by
  obtain ⟨X, rfl⟩ := Int.eq_ofNat_of_zero_le h1
  obtain ⟨Y, rfl⟩ := Int.eq_ofNat_of_zero_le h3
  have hx : X ^^^ Y < 2 ^ 62 := Nat.xor_lt_two_pow (by omega) (by omega)
  have e1 : (BitVec.ofInt 64 (X : Int)).toNat = X := by
    rw [BitVec.ofInt_natCast, BitVec.toNat_ofNat]; exact Nat.mod_eq_of_lt (by omega)
  have e2 : (BitVec.ofInt 64 (Y : Int)).toNat = Y := by
    rw [BitVec.ofInt_natCast, BitVec.toNat_ofNat]; exact Nat.mod_eq_of_lt (by omega)
  have e : bits .xor .i64 (X : Int) (Y : Int) = ((X ^^^ Y : Nat) : Int) := by
    show IntKind.i64.wrap ((BitVec.ofInt 64 (X : Int) ^^^ BitVec.ofInt 64 (Y : Int)).toNat : Int) = _
    rw [BitVec.toNat_xor, e1, e2, IntKind.wrap_i64]
    omega
  rw [e]; omega

/-- What pick leaves: some number below n (0 where there is none), the reader one place on. -/
def Picked (w : World) (R : Nat) (p m : Int) (e : Ending) (w' : World) : Prop :=
  ∃ v : Int, e = .returned (.int .i64 v) ∧ 0 ≤ v ∧ (1 ≤ m → v < m) ∧ (m < 1 → v = 0) ∧ ∃ d, w' = (w.setCell ⟨R, 1, none⟩ (.int .i64 (p + 1))).drewN d

set_option maxHeartbeats 1000000 in
theorem pick_any (R : Nat) (a : Option Addr) (n c : Nat) (bs : List Int) (p m : Int) (w : World) (h : Rdr w R a n c bs p) (hp : p ≤ 1099511627776) :
    Calls Try.prog 29 #[.pointer (some ⟨R, 0, none⟩), .int .i64 m] w (Picked w R p m) := by
  have c0 := h.cell0
  have c1 := h.cell1
  have f1 := h.fz 1
  have hlen := Lib.hid h.len
  have hfew := h.few
  have hpos := h.pos
  have hby := Lib.hid h.byte
  have h2 := (h.move 0).1
  have c0' := h2.cell0
  have c1' := h2.cell1
  have hrd' := h2.rd
  have hrd'' : Rd (w.setCell ⟨R, 1, none⟩ (.int .i64 (p + 1))) a (bytesV bs) := hrd'
  change (w.setCell ⟨R, 1, none⟩ (.int .i64 (p + 1))).cell? ⟨R, 0, none⟩ = _ at c0'
  change (w.setCell ⟨R, 1, none⟩ (.int .i64 (p + 1))).cell? ⟨R, 1, none⟩ = _ at c1'
  clear h2 hrd' h
  by_cases hm : m < 1
  · go_enter Try.func29, Try.ntmps29
    go_wp2
    go_ret
    exact ⟨0, rfl, by omega, by omega, by omega, 0, rfl⟩
  · by_cases hn : n = 0
    · subst hn
      have hmd : decide (m < 1) = false := by simpa using hm
      go_enter Try.func29, Try.ntmps29
      go_wp2
      go_ret
      exact ⟨0, rfl, by omega, by omega, by omega, 0, rfl⟩
    · have hn0 : ((n : Int) == 0) = false := by simp; omega
      obtain ⟨b, o, rfl, hc⟩ := hrd''.at (by have := hlen.out; simp; omega)
      have byteAt : ∀ j, j < n → ∃ x : Int, 0 ≤ x ∧ x ≤ 255 ∧ (w.setCell ⟨R, 1, none⟩ (.int .i64 (p + 1))).cell? ⟨b, o + j, none⟩ = some (.int .u8 x) := fun j hj => by
        have hl := hlen.out
        refine ⟨bs.getD j 0, ?_⟩
        have hm : bs.getD j 0 ∈ bs := by rw [List.getD_eq_getElem?_getD, List.getElem?_eq_getElem (by omega)]; simp
        have := hby.out _ hm
        refine ⟨this.1, this.2, ?_⟩
        rw [hc j (by simp; omega)]
        simp [bytesV, List.getD, show j < bs.length by omega]
      have HB := Lib.hid byteAt
      obtain ⟨k, hk⟩ := Int.eq_ofNat_of_zero_le hpos
      subst hk
      clear byteAt hc hrd''
      by_cases hlt : k < n
      · obtain ⟨x, hx0, hx1, hxc⟩ := HB.out k hlt
        go_enter Try.func29, Try.ntmps29
        go_wp2
        go_ret
        exact ⟨x % m, rfl, Int.emod_nonneg _ (by omega), fun _ => Int.emod_lt_of_pos _ (by omega), by omega, 0, rfl⟩
      · obtain ⟨x, hx0, hx1, hxc⟩ := HB.out (k % n) (Nat.mod_lt _ (by omega))
        obtain ⟨y, hy0, hy1, hyc⟩ := HB.out ((k * 7 + 3) % n) (Nat.mod_lt _ (by omega))
        have hq1 : k / n ≤ k := Nat.div_le_self _ _
        have i1 : 0 ≤ (k : Int) % (n : Int) := Int.emod_nonneg _ (by omega)
        have i2 : (k : Int) % (n : Int) < n := Int.emod_lt_of_pos _ (by omega)
        have i3 : ((k : Int) % (n : Int)).toNat = k % n := by rw [← Int.natCast_emod]; rfl
        have j1 : 0 ≤ ((k : Int) * 7 + 3) % (n : Int) := Int.emod_nonneg _ (by omega)
        have j2 : ((k : Int) * 7 + 3) % (n : Int) < n := Int.emod_lt_of_pos _ (by omega)
        have j3 : (((k : Int) * 7 + 3) % (n : Int)).toNat = (k * 7 + 3) % n := by
          rw [show ((k : Int) * 7 + 3) = ((k * 7 + 3 : Nat) : Int) from by simp, ← Int.natCast_emod]; rfl
        have q1 : 0 ≤ (k : Int) / (n : Int) := Int.ediv_nonneg (by omega) (by omega)
        have q2 : (k : Int) / (n : Int) ≤ k := by rw [← Int.natCast_ediv]; omega
        go_enter Try.func29, Try.ntmps29
        go_wp2
        go_quiet (fail)
        go_wp2
        go_ret
        obtain ⟨x1, _⟩ := xor_i64 (x * 131 + y * 1117 + k * 29 + k / n * 53) ((x * 131 + y * 1117 + k * 29 + k / n * 53) / 64) (by omega) (by omega) (by omega) (by omega)
        exact ⟨_, rfl, Int.tmod_nonneg _ x1, fun _ => Int.tmod_lt_of_pos _ (by omega), by omega, nq, rfl⟩

/-- What a reader's step leaves, in one word. -/
theorem Picked.out {w w' : World} {R : Nat} {a : Option Addr} {n c : Nat} {bs : List Int} {p m : Int} {e : Ending} (h : Rdr w R a n c bs p) (k : Picked w R p m e w') :
    ∃ v : Int, e = .returned (.int .i64 v) ∧ 0 ≤ v ∧ (1 ≤ m → v < m) ∧ (m < 1 → v = 0) ∧ Rdr w' R a n c bs (p + 1) ∧ w.grownBy w' (some R) ∧ w'.heap.size = w.heap.size := by
  obtain ⟨v, rfl, h1, h2, h3, d, rfl⟩ := k
  refine ⟨v, rfl, h1, h2, h3, (h.move d).1, (h.move d).2, ?_⟩
  show (w.setCell _ _).heap.size = _
  simp

theorem pick_some (R : Nat) (a : Option Addr) (n c : Nat) (bs : List Int) (p m : Int) (w : World) (h : Rdr w R a n c bs p) (hp : p ≤ 1099511627776) (hm : 1 ≤ m) :
    Calls Try.prog 29 #[.pointer (some ⟨R, 0, none⟩), .int .i64 m] w fun e w' =>
      ∃ v : Nat, e = .returned (.int .i64 v) ∧ (v : Int) < m ∧ Rdr w' R a n c bs (p + 1) ∧ w.grownBy w' (some R) ∧ Hid (w'.heap.size = w.heap.size) := by
  refine (pick_any R a n c bs p m w h hp).mono fun e w' hk => ?_
  obtain ⟨v, rfl, h1, h2, _, h3, h4, h5⟩ := hk.out h
  obtain ⟨V, rfl⟩ := Int.eq_ofNat_of_zero_le h1
  exact ⟨V, rfl, h2 hm, h3, h4, Lib.hid h5⟩

set_option maxHeartbeats 400000 in
/-- num: some number of the list. -/
theorem num_any (R : Nat) (a : Option Addr) (n c : Nat) (bs : List Int) (p : Int) (g m cm : Nat) (xs : List Int) (w : World) (h : Rdr w R a n c bs p) (hp : p ≤ 1099511627776)
    (hl : xs.length = m) (hm : 1 ≤ m) (hm2 : m ≤ 1000) (hx : Rd w (some ⟨g, 0, none⟩) (ints xs)) (hg : g ≠ R) :
    Calls Try.prog 34 #[.pointer (some ⟨R, 0, none⟩), .slice (some ⟨g, 0, none⟩) m cm] w fun e w' =>
      ∃ v : Int, e = .returned (.int .i64 v) ∧ v ∈ xs ∧ Rdr w' R a n c bs (p + 1) ∧ w.grownBy w' (some R) ∧ Hid (w'.heap.size = w.heap.size) := by
  have HL := Lib.hid hl
  clear hl
  go_enter Try.func34, Try.ntmps34
  go_wp2_with fail
  refine (pick_some R a n c bs p m _ h hp (by omega)).mono ?_
  rintro e w1 ⟨v, rfl, hv, hr, hgr, hs⟩
  have hvm : v < m := by omega
  obtain ⟨b', o', e', hc⟩ := (hx.grown hgr (.inr (by simp [rowOf, hg]))).int (by have := HL.out; omega)
  have hcv := hc v (by have := HL.out; omega)
  cases e'
  rw [Nat.zero_add] at hcv
  obtain ⟨x, hx'⟩ : ∃ x, x = xs.getD v 0 := ⟨_, rfl⟩
  rw [← hx'] at hcv
  have HX := Lib.hid hx'
  clear hc hx'
  go_wp2_with fail
  go_ret
  refine ⟨x, rfl, ?_, hr, hgr, hs⟩
  rw [HX.out, List.getD_eq_getElem?_getD, List.getElem?_eq_getElem (by have := HL.out; omega)]
  simp

set_option maxHeartbeats 400000 in
theorem open13_any (a : Option Addr) (n c : Nat) (bs : List Int) (w : World) (hl : bs.length = n) (h1 : Rd w a (bytesV bs)) (hcap : n ≤ c) (hby : ∀ b ∈ bs, 0 ≤ b ∧ b ≤ 255) (hn : n ≤ 1048576) :
    Calls Try.prog 27 #[.slice a n c] w fun e w' =>
      e = .returned (.pointer (some ⟨w.heap.size, 0, none⟩)) ∧ ∃ n' bs', Rdr w' w.heap.size a n' c bs' 0 ∧ Below w.heap.size w w' ∧ w'.heap.size = w.heap.size + 1 := by
  have HL := Lib.hid hl
  have HB := Lib.hid hby
  have hap : n = 0 ∨ ∃ k, rowOf a = some k ∧ k < w.heap.size := by
    rcases h1 with h0 | ⟨b, o, rfl, hc⟩
    · left; have := congrArg List.length h0; simpa [hl] using this
    · by_cases h0 : n = 0
      · exact .inl h0
      · right
        have := hc 0 (by simp; omega)
        exact ⟨b, rfl, World.block_lt_of_cell? w ⟨b, o + 0, none⟩ this⟩
  have HAP := Lib.hid hap
  clear hl hby hap
  go_enter Try.func27, Try.ntmps27
  go_wp2_with fail
  all_goals go_ret
  · have hlt : (2000 : Int) < n := by assumption
    refine ⟨rfl, 2000, bs.take 2000, ⟨?_, ?_, ?_, by omega, by omega, ?_, ?_⟩, (Below.refl _ _).alloc (Nat.le_refl _) _, by simp⟩
    · exact heap_alloc_new w _
    · refine Rd.below ?_ ((Below.refl _ _).alloc (Nat.le_refl _) _)
      rcases h1 with h0 | ⟨b, o, rfl, hc⟩
      · exfalso
        have h3 := congrArg List.length h0
        simp only [List.length_map, List.length_nil] at h3
        have := HL.out
        omega
      · refine .inr ⟨b, o, rfl, fun j hj => ?_⟩
        have := HL.out
        simp only [List.length_map, List.length_take] at hj
        rw [hc j (by simp; omega)]
        simp [bytesV, List.getD, show j < 2000 by omega]
    · have := HL.out; simp; omega
    · intro b hb; exact HB.out b (List.mem_of_mem_take hb)
    · rcases HAP.out with h0 | h0
      · omega
      · exact .inr h0
  · have hge : (n : Int) ≤ 2000 := by assumption
    exact ⟨rfl, n, bs, ⟨heap_alloc_new w _, h1.below ((Below.refl _ _).alloc (Nat.le_refl _) _), HL.out, by omega, by omega, HB.out, HAP.out⟩, (Below.refl _ _).alloc (Nat.le_refl _) _, by simp⟩

end Go.Proofs.Ytklbjnphfpjgeaa
