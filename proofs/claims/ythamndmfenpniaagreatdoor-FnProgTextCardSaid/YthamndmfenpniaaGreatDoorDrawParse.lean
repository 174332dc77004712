/- l6Bend and the draw DrawParseProg: the reference's text. -/
import Derived.Test.YthamndmfenpniaaGreatDoorRegRd
namespace Go.Proofs.YthamndmfenpniaaGreatDoor
open Go.RowKit

set_option maxHeartbeats 400000 in
/-- of: some text of the list, of at most K bytes. -/
theorem of_le (K : Nat) (R : Nat) (a : Option Addr) (n c : Nat) (bs : List Int) (p : Int) (g m cm : Nat) (w : World) (h : Rdr w R a n c bs p) (hp : p ≤ 1099511627776)
    (hm : 1 ≤ m) (hm2 : m ≤ 1000) (hx : ∀ v : Nat, v < m → ∃ x : ByteArray, w.cell? ⟨g, v, none⟩ = some (.string x) ∧ x.size ≤ K) (hg : g ≠ R) :
    Calls Tryz.prog 52 #[.pointer (some ⟨R, 0, none⟩), .slice (some ⟨g, 0, none⟩) m cm] w fun e w' =>
      ∃ x : ByteArray, e = .returned (.string x) ∧ x.size ≤ K ∧ Rdr w' R a n c bs (p + 1) ∧ w.grownBy w' (some R) := by
  have HX := Lib.hid hx
  clear hx
  go_enter Tryz.func52, Tryz.ntmps52
  go_wp2_with fail
  refine (pick_some R a n c bs p m _ h hp (by omega)).mono ?_
  rintro e w1 ⟨v, rfl, hv, hr, hgr, hs⟩
  have hvm : v < m := by omega
  obtain ⟨x, hx1, hx2⟩ := HX.out v hvm
  have hcv : w1.cell? ⟨g, v, none⟩ = some (.string x) := by
    have hb := World.block_lt_of_cell? _ _ hx1
    have := hgr.block g hb (by simpa using hg)
    unfold World.cell? at hx1 ⊢
    simp only at hx1 ⊢
    rw [this]
    exact hx1
  clear hx1
  go_wp2_with fail
  go_ret
  exact ⟨x, rfl, hx2, hr, hgr⟩

set_option maxRecDepth 100000 in
set_option maxHeartbeats 8000000 in
theorem l6Bend_any (R : Nat) (a : Option Addr) (n c : Nat) (bs : List Int) (p : Int) (s : ByteArray) (g : Nat) (w : World) (h : Rdr w R a n c bs p) (hp : p ≤ 1000) (hs : s.size ≤ 4096)
    (hx : ∀ v : Nat, v < 6 → ∃ x : ByteArray, w.cell? ⟨g, v, none⟩ = some (.string x) ∧ x.size ≤ 8) (hg : g ≠ R) :
    Calls Tryz.prog 19 #[.pointer (some ⟨R, 0, none⟩), .string s, .slice (some ⟨g, 0, none⟩) 6 6] w fun e w' => ∃ x : ByteArray, e = .returned (.string x) ∧ x.size ≤ s.size + 8 ∧ w.grownBy w' (some R) := by
  have HX := Lib.hid hx
  clear hx
  go_enter Tryz.func19, Tryz.ntmps19
  by_cases h0 : s.size = 0
  · have t0 : ((s.size : Int) == 0) = true := by rw [h0]; rfl
    have HS := Lib.hid h0
    go_wp2
    go_ret
    exact ⟨s, rfl, by omega, World.grownBy.refl _ _⟩
  have t0 : ((s.size : Int) == 0) = false := beq_eq_false_iff_ne.2 (by omega)
  go_wp2_with fail
  refine (pick_some R a n c bs p 2 w h (by omega) (by decide)).mono ?_
  rintro e w1 ⟨x, rfl, hxx, r1, g1, s1⟩
  by_cases hx0 : x = 0
  · have t1 : ((x : Int) == 0) = true := by rw [hx0]; rfl
    go_wp2
    go_ret
    exact ⟨s, rfl, by omega, g1⟩
  have t1 : ((x : Int) == 0) = false := by simpa using hx0
  have hpos : (1 : Int) ≤ (s.size : Int) := by omega
  have hgl : g < w.heap.size := by
    obtain ⟨x, hx1, hx2⟩ := HX.out 0 (by decide)
    exact World.block_lt_of_cell? _ _ hx1
  clear hx0 hxx s1
  go_wp2_with fail
  refine (pick_some R a n c bs (p + 1) s.size w1 r1 (by omega) hpos).mono ?_
  rintro e w2 ⟨k, rfl, hk, r2, g2, s2⟩
  have hk' : k < s.size := by omega
  have HG2 := Lib.hid (grown_trans g1 g2)
  have HX2 : Hid (∀ v : Nat, v < 6 → ∃ x : ByteArray, w2.cell? ⟨g, v, none⟩ = some (.string x) ∧ x.size ≤ 8) := Lib.hid (fun v hv => by
    obtain ⟨x, hx1, hx2⟩ := HX.out v hv
    refine ⟨x, ?_, hx2⟩
    have := (grown_trans g1 g2).block g hgl (by simpa using hg)
    unfold World.cell? at hx1 ⊢
    simp only at hx1 ⊢
    rw [this]
    exact hx1)
  obtain ⟨q, hq⟩ : ∃ q : Int, q = p + 1 + 1 := ⟨_, rfl⟩
  rw [← hq] at r2
  have hqb : q ≤ 2000 := by omega
  have hgl2 : g < w2.heap.size := by have := HG2.out.size; omega
  clear r1 g1 g2 s2 hq h t0 t1 HX
  go_wp2_with fail
  refine wp_region_steps 14 (by kernel_rfl) (by kernel_rfl) [fun dz uz wz => uz = .string s, fun dz uz wz => uz = .int .i64 k, fun dz uz wz => (uz = .string (s.extract 0 k)), fun dz uz wz => uz = .pointer (some ⟨R, 0, none⟩), fun dz uz wz => uz = .slice (some ⟨g, 0, none⟩) 6 6, fun dz uz wz => (∃ z : ByteArray, uz = .string z ∧ z.size ≤ 8), fun dz uz wz => (∃ z : ByteArray, uz = .string z ∧ z.size ≤ k + 8), fun dz uz wz => uz = .string s, fun dz uz wz => uz = .int .i64 k, fun dz uz wz => uz = .pointer (some ⟨R, 0, none⟩), fun dz uz wz => (∃ z : Nat, uz = .int .i64 z ∧ z < 2), fun dz uz wz => (∃ z : Nat, uz = .int .i64 (z : Int) ∧ k ≤ z ∧ z ≤ s.size), fun dz uz wz => (∃ z : ByteArray, uz = .string z ∧ z.size ≤ s.size - k), fun dz uz wz => (∃ z : ByteArray, uz = .string z ∧ z.size ≤ s.size + 8)] (fun _ wz wy => wz.grownBy wy (some (R))) (fun _ _ => none) (GR (R) a n c bs w2 2000 1 5 10) (GR.start r2 (by omega)) (fun _ _ _ h => h.size) (stabR_of ⟨fun _ _ _ _ _ h => h, fun _ _ _ _ _ h => h, fun _ _ _ _ _ h => h, fun _ _ _ _ _ h => h, fun _ _ _ _ _ h => h, fun _ _ _ _ _ h => h, fun _ _ _ _ _ h => h, fun _ _ _ _ _ h => h, fun _ _ _ _ _ h => h, fun _ _ _ _ _ h => h, fun _ _ _ _ _ h => h, fun _ _ _ _ _ h => h, fun _ _ _ _ _ h => h, fun _ _ _ _ _ h => h, trivial⟩) ?_ ?_
  · simp only [List.take_succ_cons, List.take_zero]
    refine ⟨?_, ?_, ?_, ?_, ?_, ?_, ?_, ?_, ?_, ?_, ?_, ?_, ?_, ?_, trivial⟩
    · intro ρ w1 L hG hny hfr hd
      have fc : ∀ z, ρ (.const z) = z := fun _ => hfr _ rfl
      have ff : ∀ z, ρ (.func z) = .func (.func z) #[] #[] := fun _ => hfr _ rfl
      have f1 : ρ (.tmp 1) = .string s := hfr _ rfl
      refine gives_val (u := .string s) (w' := w1) (by go_simp) ⟨World.grownBy.refl _ _, rfl, (fun _ hk => by cases hk), hG.same (by decide) _⟩
    · intro ρ w1 L hG hny hfr hd
      have fc : ∀ z, ρ (.const z) = z := fun _ => hfr _ rfl
      have ff : ∀ z, ρ (.func z) = .func (.func z) #[] #[] := fun _ => hfr _ rfl
      have f7 : ρ (.tmp 7) = .int .i64 k := hfr _ rfl
      refine gives_val (u := .int .i64 k) (w' := w1) (by go_simp) ⟨World.grownBy.refl _ _, rfl, (fun _ hk => by cases hk), hG.same (by decide) _⟩
    · intro ρ w1 L hG hny hfr hd
      have fc : ∀ z, ρ (.const z) = z := fun _ => hfr _ rfl
      have ff : ∀ z, ρ (.func z) = .func (.func z) #[] #[] := fun _ => hfr _ rfl
      obtain ⟨d0, d1, -⟩ := hd
      have d0 : (ρ (.tmp 21)) = .string s := d0
      have d1 : (ρ (.tmp 22)) = .int .i64 k := d1
      have i0 : (0 : Int) ≤ (k : Int) := by omega
      have i1 : (k : Int) ≤ (s.size : Int) := by omega
      refine gives_val (u := .string (s.extract 0 k)) (w' := w1) (by go_simp) ⟨World.grownBy.refl _ _, rfl, (fun _ hk => by cases hk), hG.same (by decide) _⟩
    · intro ρ w1 L hG hny hfr hd
      have fc : ∀ z, ρ (.const z) = z := fun _ => hfr _ rfl
      have ff : ∀ z, ρ (.func z) = .func (.func z) #[] #[] := fun _ => hfr _ rfl
      have f0 : ρ (.tmp 0) = .pointer (some ⟨R, 0, none⟩) := hfr _ rfl
      refine gives_val (u := .pointer (some ⟨R, 0, none⟩)) (w' := w1) (by go_simp) ⟨World.grownBy.refl _ _, rfl, (fun _ hk => by cases hk), hG.same (by decide) _⟩
    · intro ρ w1 L hG hny hfr hd
      have fc : ∀ z, ρ (.const z) = z := fun _ => hfr _ rfl
      have ff : ∀ z, ρ (.func z) = .func (.func z) #[] #[] := fun _ => hfr _ rfl
      have f2 : ρ (.tmp 2) = .slice (some ⟨g, 0, none⟩) 6 6 := hfr _ rfl
      refine gives_val (u := .slice (some ⟨g, 0, none⟩) 6 6) (w' := w1) (by go_simp) ⟨World.grownBy.refl _ _, rfl, (fun _ hk => by cases hk), hG.same (by decide) _⟩
    · intro ρ w1 L hG hny hfr hd
      have fc : ∀ z, ρ (.const z) = z := fun _ => hfr _ rfl
      have ff : ∀ z, ρ (.func z) = .func (.func z) #[] #[] := fun _ => hfr _ rfl
      obtain ⟨d0, d1, -⟩ := hd
      have d0 : (ρ (.tmp 24)) = .pointer (some ⟨R, 0, none⟩) := d0
      have d1 : (ρ (.tmp 25)) = .slice (some ⟨g, 0, none⟩) 6 6 := d1
      have hLi := hny 5 _ rfl (by kernel_rfl)
      obtain ⟨pos, hrd, hpos⟩ := hG.2
      have hpb := hpos
      have hif : ∀ b : Bool, (if b = true then (1 : Int) else 0) ≤ 1 := fun b => by cases b <;> decide
      have hb1 := hif (L 5)
      have hb2 := hif (L 10)
      refine gives_call (by go_simp; exact ⟨⟨rfl, rfl⟩, rfl⟩) ?_
      refine (of_le 8 R a n c bs pos g 6 6 _ hrd (by omega) (by decide) (by decide) (fun v hv => by
        obtain ⟨x, hx1, hx2⟩ := HX2.out v hv
        refine ⟨x, ?_, hx2⟩
        have := hG.1.block g hgl2 (by simpa using hg)
        unfold World.cell? at hx1 ⊢
        simp only at hx1 ⊢
        rw [this]
        exact hx1) hg).mono ?_
      rintro e w2 ⟨z, rfl, z1, z2, z3⟩
      exact ⟨_, rfl, z3, ⟨z, rfl, z1⟩, (fun _ hk => by cases hk), hG.call (by decide) ⟨.inl rfl, by decide⟩ hLi hpos z2 (by omega) z3⟩
    · intro ρ w1 L hG hny hfr hd
      have fc : ∀ z, ρ (.const z) = z := fun _ => hfr _ rfl
      have ff : ∀ z, ρ (.func z) = .func (.func z) #[] #[] := fun _ => hfr _ rfl
      obtain ⟨d0, d1, -⟩ := hd
      have d0 : ((ρ (.tmp 23)) = .string (s.extract 0 k)) := d0
      have d1 : (∃ z : ByteArray, (ρ (.tmp 26)) = .string z ∧ z.size ≤ 8) := d1
      obtain ⟨z, d1, hz⟩ := d1
      have hl : (s.extract 0 k).size = k := by rw [ByteArray.size_extract]; omega
      have ha := run_string_add_sum (P := Tryz.prog) w1 (s.extract 0 k) z (by omega)
      refine gives_val (u := .string (s.extract 0 k ++ z)) (w' := w1) (by go_simp) ⟨World.grownBy.refl _ _, ⟨_, rfl, by rw [ByteArray.size_append]; omega⟩, (fun _ hk => by cases hk), hG.same (by decide) _⟩
    · intro ρ w1 L hG hny hfr hd
      have fc : ∀ z, ρ (.const z) = z := fun _ => hfr _ rfl
      have ff : ∀ z, ρ (.func z) = .func (.func z) #[] #[] := fun _ => hfr _ rfl
      have f1 : ρ (.tmp 1) = .string s := hfr _ rfl
      refine gives_val (u := .string s) (w' := w1) (by go_simp) ⟨World.grownBy.refl _ _, rfl, (fun _ hk => by cases hk), hG.same (by decide) _⟩
    · intro ρ w1 L hG hny hfr hd
      have fc : ∀ z, ρ (.const z) = z := fun _ => hfr _ rfl
      have ff : ∀ z, ρ (.func z) = .func (.func z) #[] #[] := fun _ => hfr _ rfl
      have f7 : ρ (.tmp 7) = .int .i64 k := hfr _ rfl
      refine gives_val (u := .int .i64 k) (w' := w1) (by go_simp) ⟨World.grownBy.refl _ _, rfl, (fun _ hk => by cases hk), hG.same (by decide) _⟩
    · intro ρ w1 L hG hny hfr hd
      have fc : ∀ z, ρ (.const z) = z := fun _ => hfr _ rfl
      have ff : ∀ z, ρ (.func z) = .func (.func z) #[] #[] := fun _ => hfr _ rfl
      have f0 : ρ (.tmp 0) = .pointer (some ⟨R, 0, none⟩) := hfr _ rfl
      refine gives_val (u := .pointer (some ⟨R, 0, none⟩)) (w' := w1) (by go_simp) ⟨World.grownBy.refl _ _, rfl, (fun _ hk => by cases hk), hG.same (by decide) _⟩
    · intro ρ w1 L hG hny hfr hd
      have fc : ∀ z, ρ (.const z) = z := fun _ => hfr _ rfl
      have ff : ∀ z, ρ (.func z) = .func (.func z) #[] #[] := fun _ => hfr _ rfl
      obtain ⟨d0, -⟩ := hd
      have d0 : (ρ (.tmp 30)) = .pointer (some ⟨R, 0, none⟩) := d0
      have hLi := hny 10 _ rfl (by kernel_rfl)
      obtain ⟨pos, hrd, hpos⟩ := hG.2
      have hpb := hpos
      have hif : ∀ b : Bool, (if b = true then (1 : Int) else 0) ≤ 1 := fun b => by cases b <;> decide
      have hb1 := hif (L 5)
      have hb2 := hif (L 10)
      refine gives_call (by go_simp; exact ⟨⟨rfl, rfl⟩, rfl⟩) ?_
      refine (pick_some R a n c bs pos 2 _ hrd (by omega) (by decide)).mono ?_
      rintro e w2 ⟨z, rfl, z1, z2, z3, z4⟩
      exact ⟨_, rfl, z3, ⟨z, rfl, by omega⟩, (fun _ hk => by cases hk), hG.call (by decide) ⟨.inr rfl, by decide⟩ hLi hpos z2 (by omega) z3⟩
    · intro ρ w1 L hG hny hfr hd
      have fc : ∀ z, ρ (.const z) = z := fun _ => hfr _ rfl
      have ff : ∀ z, ρ (.func z) = .func (.func z) #[] #[] := fun _ => hfr _ rfl
      obtain ⟨d0, d1, -⟩ := hd
      have d0 : (ρ (.tmp 29)) = .int .i64 k := d0
      have d1 : (∃ z : Nat, (ρ (.tmp 31)) = .int .i64 z ∧ z < 2) := d1
      obtain ⟨z, d1, hz⟩ := d1
      have i8 : (z : Int) ≤ 1 := by omega
      have i9 : (k : Int) ≤ 4096 := by omega
      have hwr : IntKind.i64.wrap ((k : Int) + (z : Int)) = (k : Int) + (z : Int) := Go.IntWalk.i64_in _ (by omega)
      refine gives_val (u := .int .i64 ((k : Int) + (z : Int))) (w' := w1) (by go_simp) ⟨World.grownBy.refl _ _, ⟨k + z, by rw [Int.natCast_add]; rfl, by omega, by omega⟩, (fun _ hk => by cases hk), hG.same (by decide) _⟩
    · intro ρ w1 L hG hny hfr hd
      have fc : ∀ z, ρ (.const z) = z := fun _ => hfr _ rfl
      have ff : ∀ z, ρ (.func z) = .func (.func z) #[] #[] := fun _ => hfr _ rfl
      obtain ⟨d0, d1, -⟩ := hd
      have d0 : (ρ (.tmp 28)) = .string s := d0
      have d1 : (∃ z : Nat, (ρ (.tmp 32)) = .int .i64 (z : Int) ∧ k ≤ z ∧ z ≤ s.size) := d1
      obtain ⟨z, d1, hz1, hz2⟩ := d1
      have i0 : (0 : Int) ≤ (z : Int) := by omega
      have i1 : (z : Int) ≤ (s.size : Int) := by omega
      refine gives_val (u := .string (s.extract z s.size)) (w' := w1) (by go_simp) ⟨World.grownBy.refl _ _, ⟨_, rfl, by rw [ByteArray.size_extract]; omega⟩, (fun _ hk => by cases hk), hG.same (by decide) _⟩
    · intro ρ w1 L hG hny hfr hd
      have fc : ∀ z, ρ (.const z) = z := fun _ => hfr _ rfl
      have ff : ∀ z, ρ (.func z) = .func (.func z) #[] #[] := fun _ => hfr _ rfl
      obtain ⟨d0, d1, -⟩ := hd
      have d0 : (∃ z : ByteArray, (ρ (.tmp 27)) = .string z ∧ z.size ≤ k + 8) := d0
      have d1 : (∃ z : ByteArray, (ρ (.tmp 33)) = .string z ∧ z.size ≤ s.size - k) := d1
      obtain ⟨z, d0, hz⟩ := d0
      obtain ⟨y, d1, hy⟩ := d1
      have ha := run_string_add_sum (P := Tryz.prog) w1 z y (by omega)
      refine gives_val (u := .string (z ++ y)) (w' := w1) (by go_simp) ⟨World.grownBy.refl _ _, ⟨_, rfl, by rw [ByteArray.size_append]; omega⟩, (fun _ hk => by cases hk), hG.same (by decide) _⟩
  intro vs w2 LL hG hlen hall hap hbd
  obtain ⟨xv0, vs0, rfl, hl0⟩ := len_cons hlen
  obtain ⟨xv1, vs1, rfl, hl1⟩ := len_cons hl0
  obtain ⟨xv2, vs2, rfl, hl2⟩ := len_cons hl1
  obtain ⟨xv3, vs3, rfl, hl3⟩ := len_cons hl2
  obtain ⟨xv4, vs4, rfl, hl4⟩ := len_cons hl3
  obtain ⟨xv5, vs5, rfl, hl5⟩ := len_cons hl4
  obtain ⟨xv6, vs6, rfl, hl6⟩ := len_cons hl5
  obtain ⟨xv7, vs7, rfl, hl7⟩ := len_cons hl6
  obtain ⟨xv8, vs8, rfl, hl8⟩ := len_cons hl7
  obtain ⟨xv9, vs9, rfl, hl9⟩ := len_cons hl8
  obtain ⟨xv10, vs10, rfl, hl10⟩ := len_cons hl9
  obtain ⟨xv11, vs11, rfl, hl11⟩ := len_cons hl10
  obtain ⟨xv12, vs12, rfl, hl12⟩ := len_cons hl11
  obtain ⟨xv13, vs13, rfl, hl13⟩ := len_cons hl12
  obtain rfl := len_nil hl13
  clear hlen hl0 hl1 hl2 hl3 hl4 hl5 hl6 hl7 hl8 hl9 hl10 hl11 hl12 hl13
  simp only [List.take_succ_cons, List.take_zero, List.drop_succ_cons, List.drop_zero] at hall ⊢
  obtain ⟨t0', t1', t2', t3', t4', t5', t6', t7', t8', t9', t10', t11', t12', t13', -⟩ := hall
  have hv0 : xv0 = .string s := t0'
  have hv1 : xv1 = .int .i64 k := t1'
  have hv2 : (xv2 = .string (s.extract 0 k)) := t2'
  have hv3 : xv3 = .pointer (some ⟨R, 0, none⟩) := t3'
  have hv4 : xv4 = .slice (some ⟨g, 0, none⟩) 6 6 := t4'
  have hv5 : (∃ z : ByteArray, xv5 = .string z ∧ z.size ≤ 8) := t5'
  have hv6 : (∃ z : ByteArray, xv6 = .string z ∧ z.size ≤ k + 8) := t6'
  have hv7 : xv7 = .string s := t7'
  have hv8 : xv8 = .int .i64 k := t8'
  have hv9 : xv9 = .pointer (some ⟨R, 0, none⟩) := t9'
  have hv10 : (∃ z : Nat, xv10 = .int .i64 z ∧ z < 2) := t10'
  have hv11 : (∃ z : Nat, xv11 = .int .i64 (z : Int) ∧ k ≤ z ∧ z ≤ s.size) := t11'
  have hv12 : (∃ z : ByteArray, xv12 = .string z ∧ z.size ≤ s.size - k) := t12'
  have hv13 : (∃ z : ByteArray, xv13 = .string z ∧ z.size ≤ s.size + 8) := t13'
  clear t0' t1' t2' t3' t4' t5' t6' t7' t8' t9' t10' t11' t12' t13'
  clear hap hbd
  subst hv0 hv1 hv3 hv4 hv7 hv8 hv9
  simp only [putAll, Act.put, List.setIfInBounds_toArray, List.set_cons_succ, List.set_cons_zero]
  obtain ⟨z, rfl, hz⟩ := hv13
  have hg9 := hG.1
  go_wp2
  go_ret
  exact ⟨z, rfl, hz, grown_trans HG2.out hg9⟩


set_option maxRecDepth 100000 in
set_option maxHeartbeats 2000000 in
theorem drawParseProg_any (a : Option Addr) (n c : Nat) (bs : List Int) (w : World) (hC : Code13 w a n c bs) :
    Calls Tryz.prog 6 #[.slice a n c] w fun e w' => ∃ x : ByteArray, e = .returned (.string x) ∧ x.size ≤ 4096 ∧ Below w.heap.size w w' := by
  go_enter Tryz.func6, Tryz.ntmps6
  go_wp2_with fail
  refine hC.open.mono ?_
  rintro e w1 ⟨rfl, n', bs', r1, b1, s1⟩
  have HB1 := Lib.hid b1
  have hs1 := s1
  clear b1 hC
  go_wp2_with fail
  refine (l6Draw_any w.heap.size a n' c bs' 0 w1 r1 (by omega)).mono ?_
  rintro e w2 ⟨v, vs, p, pos', rfl, o2, f2, z2, r2, hp2, g2⟩
  have hs2 := g2.size
  have HB2 := Lib.hid (HB1.out.trans (below_of_grown g2 (by omega) (fun i e => by cases e; omega)))
  clear r1 g2 f2
  go_wp2_with fail
  refine (specFormatProg_any v p _ o2.rd (z2.small o2 (by decide))).mono ?_
  rintro e w3 ⟨rfl, b3⟩
  have r3 := r2.below b3
  have hs3 := b3.size
  have hfs := fmtProg_size p
  obtain ⟨s, hsx⟩ : ∃ s, s = fmtProg p := ⟨_, rfl⟩
  rw [← hsx] at hfs ⊢
  have HB3 := Lib.hid (HB2.out.trans (b3.mono HB2.out.size))
  have r4 := r3.below ((Below.refl _ _).alloc (Nat.le_refl _) (.cells #[.string ⟨#[]⟩, .string ⟨#[32]⟩, .string ⟨#[44]⟩, .string ⟨#[10]⟩, .string ⟨#[49]⟩, .string ⟨#[116, 104, 114, 101, 97, 100]⟩] 9))
  have kB : Blk (w3.alloc (.cells #[.string ⟨#[]⟩, .string ⟨#[32]⟩, .string ⟨#[44]⟩, .string ⟨#[10]⟩, .string ⟨#[49]⟩, .string ⟨#[116, 104, 114, 101, 97, 100]⟩] 9)) w3.heap.size #[.string ⟨#[]⟩, .string ⟨#[32]⟩, .string ⟨#[44]⟩, .string ⟨#[10]⟩, .string ⟨#[49]⟩, .string ⟨#[116, 104, 114, 101, 97, 100]⟩] 9 := Blk.new _ _ _
  have HB4 := Lib.hid (HB3.out.alloc HB3.out.size (.cells #[.string ⟨#[]⟩, .string ⟨#[32]⟩, .string ⟨#[44]⟩, .string ⟨#[10]⟩, .string ⟨#[49]⟩, .string ⟨#[116, 104, 114, 101, 97, 100]⟩] 9))
  have hl4 := HB4.out.size
  clear r2 r3 o2 z2 b3 hsx
  go_wp2_with fail
  refine (l6Bend_any w.heap.size a n' c bs' pos' s w3.heap.size _ r4 (by omega) (by omega) (fun j hj => ?_) (by omega)).mono ?_
  · match j, hj with
    | 0, _ => exact ⟨_, kB.cell 0 rfl, by decide⟩
    | 1, _ => exact ⟨_, kB.cell 1 rfl, by decide⟩
    | 2, _ => exact ⟨_, kB.cell 2 rfl, by decide⟩
    | 3, _ => exact ⟨_, kB.cell 3 rfl, by decide⟩
    | 4, _ => exact ⟨_, kB.cell 4 rfl, by decide⟩
    | 5, _ => exact ⟨_, kB.cell 5 rfl, by decide⟩
  rintro e w5 ⟨x, rfl, hx, g5⟩
  go_wp2
  go_ret
  exact ⟨x, rfl, by omega, HB4.out.trans (below_of_grown g5 hl4 (fun i e => by cases e; exact Nat.le_refl _))⟩

end Go.Proofs.YthamndmfenpniaaGreatDoor
