/- The law FnHasCircle: its walk. -/
import Derived.Test.YtklbjnphfpjgeaaCirDraw
import Derived.Lib.QuietBelow
import Derived.BigQuiet
import Derived.IntWalk
namespace Go.Proofs.Ytklbjnphfpjgeaa
open Go.RowKit Go.Sort

set_option maxRecDepth 100000 in
set_option maxHeartbeats 4000000 in
theorem fnHasCircleLaw (a : Option Addr) (n c : Nat) (bs : List Int) (w : World) (hl : bs.length = n) (h1 : Rd w a (bytesV bs)) (hmx : n ≤ maxLen) (hcap : n ≤ c) (hby : ∀ b ∈ bs, 0 ≤ b ∧ b ≤ 255) :
    Calls Try.prog 8 #[.slice a n c] w fun e w' => e = .returned (.bool true) ∧ Below w.heap.size w w' := by
  unfold maxLen at hmx
  have HL := Lib.hid hl
  have HBY := Lib.hid hby
  clear hl hby
  by_cases hn : n ≤ 1048576
  · have hC := Lib.hid (Code13.mk HL.out h1 hcap HBY.out hn)
    clear HL HBY h1
    go_enter Try.func8, Try.ntmps8
    go_wp2_with fail
    refine (drawHasCircle_any a n c bs w hC.out).mono ?_
    rintro e w1 ⟨es, m, b, cb, rfl, hlen, hm, hrd, hmc, hb⟩
    have HB := Lib.hid hb
    have HE := Lib.hid hrd
    have HN := Lib.hid hlen
    clear hb hrd hlen hC
    go_wp2_with fail
    refine (implCircle_any b m cb es _ (by omega) HN.out HE.out).mono ?_
    rintro e w2 ⟨rfl, hb⟩
    replace HE := Lib.hid (HE.out.below hb)
    replace HB := Lib.hid (HB.out.trans (hb.mono HB.out.size))
    clear hb
    go_wp2_with fail
    refine (specCircle_any b m cb es _ (by omega) HN.out HE.out).mono ?_
    rintro e w3 ⟨rfl, hb⟩
    replace HE := Lib.hid (HE.out.below hb)
    replace HB := Lib.hid (HB.out.trans (hb.mono HB.out.size))
    clear hb
    obtain ⟨C, hC⟩ : ∃ C, C = circ es := ⟨_, rfl⟩
    rw [← hC]
    have HC := Lib.hid hC
    have t1 : (C != C) = false := by simp
    clear hC
    rcases es with _ | ⟨e0, tl⟩
    · obtain rfl : m = 0 := by simpa using HN.out.symm
      have hcf : C = false := by rw [HC.out]; simpa using up_circ []
      subst hcf
      have t2 : (((0 : Nat) : Int) == 0) = true := rfl
      go_wp2
      go_ret
      exact ⟨rfl, HB.out⟩
    · have hm1 : tl.length + 1 = m := HN.out
      have t2 : ((m : Int) == 0) = false := by simp; omega
      have m0 : (0 : Int) ≤ 1 := by omega
      have m1 : (1 : Int) ≤ (m : Int) := by omega
      have m2 : (1 : Int) ≤ (cb : Int) := by omega
      have m3 : (m : Int) ≤ (cb : Int) := by omega
      have m4 : (0 : Int) < (m : Int) := by omega
      obtain ⟨be, oe, ea, hc⟩ := HE.out.edge (by simp)
      subst ea
      obtain ⟨gw0, gw1⟩ := hc 0 (by simp)
      simp only [List.getD_cons_zero, Nat.zero_mul, Nat.add_zero] at gw0 gw1
      by_cases hcb : cb = 1
      · subst hcb
        have hrt : Rd w3 (some ⟨be, oe, none⟩) (edges tl) := by
          have : tl = [] := List.eq_nil_of_length_eq_zero (by omega)
          subst this
          exact .inr ⟨be, oe, rfl, fun j hj => absurd hj (by simp)⟩
        have HRT := Lib.hid hrt
        have G0 := Lib.hid gw0
        have G1 := Lib.hid gw1
        clear hc hrt gw0 gw1
        go_wp2_with fail
        refine (implCircle_any _ 0 _ tl _ (by omega) (by omega) HRT.out).mono ?_
        rintro e w4 ⟨rfl, hb⟩
        replace HE := Lib.hid (HE.out.below hb)
        replace HB := Lib.hid (HB.out.trans (hb.mono HB.out.size))
        have g0 := keepc hb G0.out
        have g1 := keepc hb G1.out
        obtain ⟨D, hD⟩ : ∃ D, D = circ tl := ⟨_, rfl⟩
        rw [← hD]
        have hDC : D = true → C = true := fun h => by rw [HC.out]; exact tail_circ e0 tl (by rw [← hD]; exact h)
        have HDC := Lib.hid hDC
        have HLE : Hid ((edges (e0 :: tl)).length = m * 2) := Lib.hid (by rw [flat_len edge_len, HN.out])
        have ONEf : Hid (∀ u ∈ edge (e0.2, e0.1), u.oneCell' = true) := Lib.hid (by intro u hu; simp only [edge, List.mem_cons, List.not_mem_nil, or_false] at hu; rcases hu with rfl | rfl <;> rfl)
        have hmb : m ≤ 1000 := hm
        clear hb hDC hD
        go_wp2
        refine wp_region_steps 14 (by kernel_rfl) (by kernel_rfl) [fun dz uz wz => ∃ gz : Nat, uz = .slice (some ⟨gz, 0, none⟩) 0 0 ∧ wz.ownsRow w4.heap.size 42 2 (.slice (some ⟨gz, 0, none⟩) 0 0) 0 [], fun dz uz wz => uz = .slice (some ⟨be, oe, none⟩) m 1, fun dz uz wz => ∃ (az : Option Addr) (cz : Nat), uz = .slice az m cz ∧ wz.ownsRow w4.heap.size 42 2 (.slice az m cz) m (edges (e0 :: tl)) ∧ (m = 0 → cz = 0), fun dz uz wz => uz = .slice (some ⟨be, oe, none⟩) m 1, fun dz uz wz => uz = .pointer (some ⟨be, oe, none⟩), fun dz uz wz => uz = .pointer (some ⟨be, oe + 1, none⟩), fun dz uz wz => uz = .int .i64 e0.2, fun dz uz wz => uz = .slice (some ⟨be, oe, none⟩) m 1, fun dz uz wz => uz = .pointer (some ⟨be, oe, none⟩), fun dz uz wz => uz = .pointer (some ⟨be, oe, none⟩), fun dz uz wz => uz = .int .i64 e0.1, fun dz uz wz => uz = .agg #[.int .i64 e0.2, .int .i64 e0.1], fun dz uz wz => ∃ gz : Nat, uz = .slice (some ⟨gz, 0, none⟩) 1 1 ∧ wz.ownsRow w4.heap.size 42 2 (.slice (some ⟨gz, 0, none⟩) 1 1) 1 (edge (e0.2, e0.1)), fun dz uz wz => ∃ (az : Option Addr) (cz : Nat), uz = .slice az (m + 1) cz ∧ wz.ownsRow w4.heap.size 42 2 (.slice az (m + 1) cz) (m + 1) (edges (e0 :: tl) ++ edge (e0.2, e0.1))] (St1 13 (fun wa wb => Below w4.heap.size wa wb ∧ KeepsRows 42 2 m wa wb)) (fun _ _ => none) (fun _ w' => Below w4.heap.size w4 w') (fun _ _ => (Below.refl _ _).drew) (st1_size (fun _ _ h => h.1.size)) (stab1_of ⟨fun _ _ _ _ hb ⟨g, e, h⟩ => ⟨g, e, owns_below h hb⟩, fun _ _ _ _ _ h => h, fun _ _ _ _ hb ⟨a, c, e, h, h0⟩ => ⟨a, c, e, owns_below h hb, h0⟩, fun _ _ _ _ _ h => h, fun _ _ _ _ _ h => h, fun _ _ _ _ _ h => h, fun _ _ _ _ _ h => h, fun _ _ _ _ _ h => h, fun _ _ _ _ _ h => h, fun _ _ _ _ _ h => h, fun _ _ _ _ _ h => h, fun _ _ _ _ _ h => h, fun _ _ _ _ hb ⟨g, e, h⟩ => ⟨g, e, owns_below h hb⟩, fun _ _ _ _ hb ⟨a, c, e, h⟩ => ⟨a, c, e, owns_below h hb⟩, trivial⟩ ⟨.inr (fun _ _ _ _ hT ⟨g, e, h⟩ => ⟨g, e, hT.2 _ _ _ _ _ (Nat.zero_le _) h⟩), .inr (fun _ _ _ _ _ h => h), .inr (fun _ _ _ _ hT ⟨a, c, e, h, h0⟩ => ⟨a, c, e, hT.2 _ _ _ _ _ (by omega) h, h0⟩), .inr (fun _ _ _ _ _ h => h), .inr (fun _ _ _ _ _ h => h), .inr (fun _ _ _ _ _ h => h), .inr (fun _ _ _ _ _ h => h), .inr (fun _ _ _ _ _ h => h), .inr (fun _ _ _ _ _ h => h), .inr (fun _ _ _ _ _ h => h), .inr (fun _ _ _ _ _ h => h), .inr (fun _ _ _ _ _ h => h), .inr (fun _ _ _ _ hT ⟨g, e, h⟩ => ⟨g, e, hT.2 _ _ _ _ _ (by omega) h⟩), .inl rfl, trivial⟩) ?_ ?_
        · simp only [List.take_succ_cons, List.take_zero]
          refine ⟨?_, ?_, ?_, ?_, ?_, ?_, ?_, ?_, ?_, ?_, ?_, ?_, ?_, ?_, trivial⟩
          · intro ρ w1 L hG hny hfr hd
            have fc : ∀ z, ρ (.const z) = z := fun _ => hfr _ rfl
            have ff : ∀ z, ρ (.func z) = .func (.func z) #[] #[] := fun _ => hfr _ rfl
            refine gives_val (u := .slice (some ⟨w1.heap.size, 0, none⟩) 0 0) (w' := w1.alloc (.cells #[] 42)) (by go_simp) ⟨st1_below (by decide) ((Below.refl _ _).alloc (Nat.le_refl _) _), ⟨_, rfl, owns_mono (owns_empty w1 42 2) hG.size⟩, (fun _ hk => by cases hk), hG.alloc hG.size _⟩
          · intro ρ w1 L hG hny hfr hd
            have fc : ∀ z, ρ (.const z) = z := fun _ => hfr _ rfl
            have ff : ∀ z, ρ (.func z) = .func (.func z) #[] #[] := fun _ => hfr _ rfl
            have f3 : ρ (.tmp 3) = .slice (some ⟨be, oe, none⟩) m 1 := hfr _ rfl
            refine gives_val (u := .slice (some ⟨be, oe, none⟩) m 1) (w' := w1) (by go_simp) ⟨st1_below (by decide) (Below.refl _ _), rfl, (fun _ hk => by cases hk), hG⟩
          · intro ρ w1 L hG hny hfr hd
            have fc : ∀ z, ρ (.const z) = z := fun _ => hfr _ rfl
            have ff : ∀ z, ρ (.func z) = .func (.func z) #[] #[] := fun _ => hfr _ rfl
            obtain ⟨d0, d1, -⟩ := hd
            have d0 : ∃ gz : Nat, (ρ (.tmp 26)) = .slice (some ⟨gz, 0, none⟩) 0 0 ∧ w1.ownsRow w4.heap.size 42 2 (.slice (some ⟨gz, 0, none⟩) 0 0) 0 [] := d0
            have d1 : (ρ (.tmp 27)) = .slice (some ⟨be, oe, none⟩) m 1 := d1
            obtain ⟨g, d0, hg⟩ := d0
            refine gives_append_new _ _ 31 rfl Try.underlying31 info_edge rfl (by decide) d0 hg d1 HLE.out (HE.out.below hG) (edges_one _) (by omega) (by decide) hG.size ?_
            intro a c w2 hown hb hf h0
            exact ⟨st1_below (by decide) (hb), ⟨a, c, rfl, hown, h0⟩, (fun _ hk => by cases hk), hG.trans (hb.mono hG.size)⟩
          · intro ρ w1 L hG hny hfr hd
            have fc : ∀ z, ρ (.const z) = z := fun _ => hfr _ rfl
            have ff : ∀ z, ρ (.func z) = .func (.func z) #[] #[] := fun _ => hfr _ rfl
            have f3 : ρ (.tmp 3) = .slice (some ⟨be, oe, none⟩) m 1 := hfr _ rfl
            refine gives_val (u := .slice (some ⟨be, oe, none⟩) m 1) (w' := w1) (by go_simp) ⟨st1_below (by decide) (Below.refl _ _), rfl, (fun _ hk => by cases hk), hG⟩
          · intro ρ w1 L hG hny hfr hd
            have fc : ∀ z, ρ (.const z) = z := fun _ => hfr _ rfl
            have ff : ∀ z, ρ (.func z) = .func (.func z) #[] #[] := fun _ => hfr _ rfl
            obtain ⟨d0, -⟩ := hd
            have d0 : (ρ (.tmp 29)) = .slice (some ⟨be, oe, none⟩) m 1 := d0
            refine gives_val (u := .pointer (some ⟨be, oe, none⟩)) (w' := w1) (by go_simp; intro hz0; omega) ⟨st1_below (by decide) (Below.refl _ _), rfl, (fun _ hk => by cases hk), hG⟩
          · intro ρ w1 L hG hny hfr hd
            have fc : ∀ z, ρ (.const z) = z := fun _ => hfr _ rfl
            have ff : ∀ z, ρ (.func z) = .func (.func z) #[] #[] := fun _ => hfr _ rfl
            obtain ⟨d0, -⟩ := hd
            have d0 : (ρ (.tmp 30)) = .pointer (some ⟨be, oe, none⟩) := d0
            refine gives_val (u := .pointer (some ⟨be, oe + 1, none⟩)) (w' := w1) (by go_simp) ⟨st1_below (by decide) (Below.refl _ _), rfl, (fun _ hk => by cases hk), hG⟩
          · intro ρ w1 L hG hny hfr hd
            have fc : ∀ z, ρ (.const z) = z := fun _ => hfr _ rfl
            have ff : ∀ z, ρ (.func z) = .func (.func z) #[] #[] := fun _ => hfr _ rfl
            obtain ⟨d0, -⟩ := hd
            have d0 : (ρ (.tmp 31)) = .pointer (some ⟨be, oe + 1, none⟩) := d0
            have g1 := keepc hG g1
            refine gives_val (u := .int .i64 e0.2) (w' := w1) (by go_simp) ⟨st1_below (by decide) (Below.refl _ _), rfl, (fun _ hk => by cases hk), hG⟩
          · intro ρ w1 L hG hny hfr hd
            have fc : ∀ z, ρ (.const z) = z := fun _ => hfr _ rfl
            have ff : ∀ z, ρ (.func z) = .func (.func z) #[] #[] := fun _ => hfr _ rfl
            have f3 : ρ (.tmp 3) = .slice (some ⟨be, oe, none⟩) m 1 := hfr _ rfl
            refine gives_val (u := .slice (some ⟨be, oe, none⟩) m 1) (w' := w1) (by go_simp) ⟨st1_below (by decide) (Below.refl _ _), rfl, (fun _ hk => by cases hk), hG⟩
          · intro ρ w1 L hG hny hfr hd
            have fc : ∀ z, ρ (.const z) = z := fun _ => hfr _ rfl
            have ff : ∀ z, ρ (.func z) = .func (.func z) #[] #[] := fun _ => hfr _ rfl
            obtain ⟨d0, -⟩ := hd
            have d0 : (ρ (.tmp 33)) = .slice (some ⟨be, oe, none⟩) m 1 := d0
            refine gives_val (u := .pointer (some ⟨be, oe, none⟩)) (w' := w1) (by go_simp; intro hz0; omega) ⟨st1_below (by decide) (Below.refl _ _), rfl, (fun _ hk => by cases hk), hG⟩
          · intro ρ w1 L hG hny hfr hd
            have fc : ∀ z, ρ (.const z) = z := fun _ => hfr _ rfl
            have ff : ∀ z, ρ (.func z) = .func (.func z) #[] #[] := fun _ => hfr _ rfl
            obtain ⟨d0, -⟩ := hd
            have d0 : (ρ (.tmp 34)) = .pointer (some ⟨be, oe, none⟩) := d0
            refine gives_val (u := .pointer (some ⟨be, oe, none⟩)) (w' := w1) (by go_simp) ⟨st1_below (by decide) (Below.refl _ _), rfl, (fun _ hk => by cases hk), hG⟩
          · intro ρ w1 L hG hny hfr hd
            have fc : ∀ z, ρ (.const z) = z := fun _ => hfr _ rfl
            have ff : ∀ z, ρ (.func z) = .func (.func z) #[] #[] := fun _ => hfr _ rfl
            obtain ⟨d0, -⟩ := hd
            have d0 : (ρ (.tmp 35)) = .pointer (some ⟨be, oe, none⟩) := d0
            have g0 := keepc hG g0
            refine gives_val (u := .int .i64 e0.1) (w' := w1) (by go_simp) ⟨st1_below (by decide) (Below.refl _ _), rfl, (fun _ hk => by cases hk), hG⟩
          · intro ρ w1 L hG hny hfr hd
            have fc : ∀ z, ρ (.const z) = z := fun _ => hfr _ rfl
            have ff : ∀ z, ρ (.func z) = .func (.func z) #[] #[] := fun _ => hfr _ rfl
            obtain ⟨d0, d1, -⟩ := hd
            have d0 : (ρ (.tmp 32)) = .int .i64 e0.2 := d0
            have d1 : (ρ (.tmp 36)) = .int .i64 e0.1 := d1
            refine gives_val (u := .agg #[.int .i64 e0.2, .int .i64 e0.1]) (w' := w1) (by go_simp) ⟨st1_below (by decide) (Below.refl _ _), rfl, (fun _ hk => by cases hk), hG⟩
          · intro ρ w1 L hG hny hfr hd
            have fc : ∀ z, ρ (.const z) = z := fun _ => hfr _ rfl
            have ff : ∀ z, ρ (.func z) = .func (.func z) #[] #[] := fun _ => hfr _ rfl
            obtain ⟨d0, -⟩ := hd
            have d0 : (ρ (.tmp 37)) = .agg #[.int .i64 e0.2, .int .i64 e0.1] := d0
            refine gives_val (u := .slice (some ⟨w1.heap.size, 0, none⟩) 1 1) (w' := w1.alloc (.cells #[.int .i64 e0.2, .int .i64 e0.1] 42)) (by go_simp) ⟨st1_below (by decide) ((Below.refl _ _).alloc (Nat.le_refl _) _), ⟨_, rfl, owns_of_blk (Blk.new w1 #[.int .i64 e0.2, .int .i64 e0.1] 42) hG.size rfl (by decide)⟩, (fun _ hk => by cases hk), hG.alloc hG.size _⟩
          · intro ρ w1 L hG hny hfr hd
            have fc : ∀ z, ρ (.const z) = z := fun _ => hfr _ rfl
            have ff : ∀ z, ρ (.func z) = .func (.func z) #[] #[] := fun _ => hfr _ rfl
            obtain ⟨d0, d1, -⟩ := hd
            have d0 : ∃ (az : Option Addr) (cz : Nat), (ρ (.tmp 28)) = .slice az m cz ∧ w1.ownsRow w4.heap.size 42 2 (.slice az m cz) m (edges (e0 :: tl)) ∧ (m = 0 → cz = 0) := d0
            have d1 : ∃ gz : Nat, (ρ (.tmp 38)) = .slice (some ⟨gz, 0, none⟩) 1 1 ∧ w1.ownsRow w4.heap.size 42 2 (.slice (some ⟨gz, 0, none⟩) 1 1) 1 (edge (e0.2, e0.1)) := d1
            obtain ⟨azo, czo, d0, hown, -⟩ := d0
            obtain ⟨gz2, d1, hg2⟩ := d1
            refine gives_append_keep _ _ 31 rfl Try.underlying31 info_edge rfl (by decide) d0 hown d1 rfl (Rd.of_owns hg2) ONEf.out (by omega) (by decide) hG.size ?_
            intro a' c' w2 hown2 hgr hkeep
            have hbB := below_of_grown hgr hG.size (fun q hq => (owns_row hown q hq).1)
            exact ⟨st1_own ⟨hbB, hkeep⟩, ⟨a', c', rfl, hown2⟩, (fun _ hk => by cases hk), hG.trans hbB⟩
        intro vs w2 L hG hlen hall hap hbd
        obtain ⟨xv0, vs0, rfl, hl0⟩ := len_cons hlen
        obtain ⟨xv1, vs1, rfl, hl1⟩ := len_cons hl0
        obtain ⟨xv2, vs2, rfl, hl2⟩ := len_cons hl1
        obtain ⟨xv3, vs3, rfl, hl3⟩ := len_cons hl2
        obtain ⟨xv4, vs4, rfl, hl4⟩ := len_cons hl3
        obtain ⟨xv5, vs5, rfl, hl5⟩ := len_cons hl4
        obtain ⟨xv6, vs6, rfl, hl6⟩ := len_cons hl5
        obtain ⟨xv7, vs7, rfl, hl7⟩ := len_cons hl6
        obtain ⟨xv8, vs8, rfl, hl8⟩ := len_cons hl7
        obtain ⟨xv9, vs9, rfl, hl9⟩ := len_cons hl8
        obtain ⟨xv10, vs10, rfl, hl10⟩ := len_cons hl9
        obtain ⟨xv11, vs11, rfl, hl11⟩ := len_cons hl10
        obtain ⟨xv12, vs12, rfl, hl12⟩ := len_cons hl11
        obtain ⟨xv13, vs13, rfl, hl13⟩ := len_cons hl12
        obtain rfl := len_nil hl13
        clear hlen hl0 hl1 hl2 hl3 hl4 hl5 hl6 hl7 hl8 hl9 hl10 hl11 hl12 hl13
        simp only [List.take_succ_cons, List.take_zero, List.drop_succ_cons, List.drop_zero] at hall ⊢
        obtain ⟨t0', t1', t2', t3', t4', t5', t6', t7', t8', t9', t10', t11', t12', t13', -⟩ := hall
        have hv0 : ∃ gz : Nat, xv0 = .slice (some ⟨gz, 0, none⟩) 0 0 ∧ w2.ownsRow w4.heap.size 42 2 (.slice (some ⟨gz, 0, none⟩) 0 0) 0 [] := t0'
        have hv1 : xv1 = .slice (some ⟨be, oe, none⟩) m 1 := t1'
        have hv2 : ∃ (az : Option Addr) (cz : Nat), xv2 = .slice az m cz ∧ w2.ownsRow w4.heap.size 42 2 (.slice az m cz) m (edges (e0 :: tl)) ∧ (m = 0 → cz = 0) := t2'
        have hv3 : xv3 = .slice (some ⟨be, oe, none⟩) m 1 := t3'
        have hv4 : xv4 = .pointer (some ⟨be, oe, none⟩) := t4'
        have hv5 : xv5 = .pointer (some ⟨be, oe + 1, none⟩) := t5'
        have hv6 : xv6 = .int .i64 e0.2 := t6'
        have hv7 : xv7 = .slice (some ⟨be, oe, none⟩) m 1 := t7'
        have hv8 : xv8 = .pointer (some ⟨be, oe, none⟩) := t8'
        have hv9 : xv9 = .pointer (some ⟨be, oe, none⟩) := t9'
        have hv10 : xv10 = .int .i64 e0.1 := t10'
        have hv11 : xv11 = .agg #[.int .i64 e0.2, .int .i64 e0.1] := t11'
        have hv12 : ∃ gz : Nat, xv12 = .slice (some ⟨gz, 0, none⟩) 1 1 ∧ w2.ownsRow w4.heap.size 42 2 (.slice (some ⟨gz, 0, none⟩) 1 1) 1 (edge (e0.2, e0.1)) := t12'
        have hv13 : ∃ (az : Option Addr) (cz : Nat), xv13 = .slice az (m + 1) cz ∧ w2.ownsRow w4.heap.size 42 2 (.slice az (m + 1) cz) (m + 1) (edges (e0 :: tl) ++ edge (e0.2, e0.1)) := t13'
        clear t0' t1' t2' t3' t4' t5' t6' t7' t8' t9' t10' t11' t12' t13'
        clear hap hbd
        subst hv1 hv3 hv4 hv5 hv6 hv7 hv8 hv9 hv10 hv11
        simp only [putAll, Act.put, List.setIfInBounds_toArray, List.set_cons_succ, List.set_cons_zero]
        obtain ⟨a5, c5, rfl, hown5⟩ := hv13
        have hrd5 : Rd w2 a5 (edges ((e0 :: tl) ++ [(e0.2, e0.1)])) := by
          have := Rd.of_owns hown5
          simpa [edges] using this
        have HR5 := Lib.hid hrd5
        have HB5 := Lib.hid (HB.out.trans (hG.mono HB.out.size))
        have HL5 : Hid (((e0 :: tl) ++ [(e0.2, e0.1)]).length = m + 1) := Lib.hid (by rw [List.length_append, HN.out]; rfl)
        clear hown5 hrd5 hG hv0 hv2 hv12
        cases D
        · go_wp2_with fail
          refine (implCircle_any a5 (m + 1) c5 _ _ (by omega) HL5.out HR5.out).mono ?_
          rintro e w6 ⟨rfl, hb6⟩
          rw [back_circ]
          go_wp2
          go_ret
          exact ⟨rfl, (HB5.out.trans (hb6.mono HB5.out.size))⟩
        · have hct : C = true := HDC.out rfl
          subst hct
          go_wp2_with fail
          refine (implCircle_any a5 (m + 1) c5 _ _ (by omega) HL5.out HR5.out).mono ?_
          rintro e w6 ⟨rfl, hb6⟩
          rw [back_circ]
          go_wp2
          go_ret
          exact ⟨rfl, (HB5.out.trans (hb6.mono HB5.out.size))⟩
      · have hrt : Rd w3 (some ⟨be, oe + 2, none⟩) (edges tl) := by
          refine .inr ⟨be, oe + 2, rfl, fun j hj => ?_⟩
          obtain ⟨b', o', e', hx⟩ := HE.out.at (by simp [edges, edge])
          simp only [Option.some.injEq, Addr.mk.injEq, and_true] at e'
          obtain ⟨rfl, rfl⟩ := e'
          have hj' : j < (edges tl).length := by simpa using hj
          have := hx (j + 2) (by simp only [edges, List.flatMap_cons, List.length_append, edge, List.length_cons, List.length_nil] at hj' ⊢; omega)
          rw [show oe + 2 + j = oe + (j + 2) by omega]
          simpa [edges, edge] using this
        have HRT := Lib.hid hrt
        have G0 := Lib.hid gw0
        have G1 := Lib.hid gw1
        clear hc hrt gw0 gw1
        go_wp2_with fail
        refine (implCircle_any _ (m - 1) _ tl _ (by omega) (by omega) HRT.out).mono ?_
        rintro e w4 ⟨rfl, hb⟩
        replace HE := Lib.hid (HE.out.below hb)
        replace HB := Lib.hid (HB.out.trans (hb.mono HB.out.size))
        have g0 := keepc hb G0.out
        have g1 := keepc hb G1.out
        obtain ⟨D, hD⟩ : ∃ D, D = circ tl := ⟨_, rfl⟩
        rw [← hD]
        have hDC : D = true → C = true := fun h => by rw [HC.out]; exact tail_circ e0 tl (by rw [← hD]; exact h)
        have HDC := Lib.hid hDC
        have HLE : Hid ((edges (e0 :: tl)).length = m * 2) := Lib.hid (by rw [flat_len edge_len, HN.out])
        have ONEf : Hid (∀ u ∈ edge (e0.2, e0.1), u.oneCell' = true) := Lib.hid (by intro u hu; simp only [edge, List.mem_cons, List.not_mem_nil, or_false] at hu; rcases hu with rfl | rfl <;> rfl)
        have hmb : m ≤ 1000 := hm
        clear hb hDC hD
        go_wp2
        refine wp_region_steps 14 (by kernel_rfl) (by kernel_rfl) [fun dz uz wz => ∃ gz : Nat, uz = .slice (some ⟨gz, 0, none⟩) 0 0 ∧ wz.ownsRow w4.heap.size 42 2 (.slice (some ⟨gz, 0, none⟩) 0 0) 0 [], fun dz uz wz => uz = .slice (some ⟨be, oe, none⟩) m cb, fun dz uz wz => ∃ (az : Option Addr) (cz : Nat), uz = .slice az m cz ∧ wz.ownsRow w4.heap.size 42 2 (.slice az m cz) m (edges (e0 :: tl)) ∧ (m = 0 → cz = 0), fun dz uz wz => uz = .slice (some ⟨be, oe, none⟩) m cb, fun dz uz wz => uz = .pointer (some ⟨be, oe, none⟩), fun dz uz wz => uz = .pointer (some ⟨be, oe + 1, none⟩), fun dz uz wz => uz = .int .i64 e0.2, fun dz uz wz => uz = .slice (some ⟨be, oe, none⟩) m cb, fun dz uz wz => uz = .pointer (some ⟨be, oe, none⟩), fun dz uz wz => uz = .pointer (some ⟨be, oe, none⟩), fun dz uz wz => uz = .int .i64 e0.1, fun dz uz wz => uz = .agg #[.int .i64 e0.2, .int .i64 e0.1], fun dz uz wz => ∃ gz : Nat, uz = .slice (some ⟨gz, 0, none⟩) 1 1 ∧ wz.ownsRow w4.heap.size 42 2 (.slice (some ⟨gz, 0, none⟩) 1 1) 1 (edge (e0.2, e0.1)), fun dz uz wz => ∃ (az : Option Addr) (cz : Nat), uz = .slice az (m + 1) cz ∧ wz.ownsRow w4.heap.size 42 2 (.slice az (m + 1) cz) (m + 1) (edges (e0 :: tl) ++ edge (e0.2, e0.1))] (St1 13 (fun wa wb => Below w4.heap.size wa wb ∧ KeepsRows 42 2 m wa wb)) (fun _ _ => none) (fun _ w' => Below w4.heap.size w4 w') (fun _ _ => (Below.refl _ _).drew) (st1_size (fun _ _ h => h.1.size)) (stab1_of ⟨fun _ _ _ _ hb ⟨g, e, h⟩ => ⟨g, e, owns_below h hb⟩, fun _ _ _ _ _ h => h, fun _ _ _ _ hb ⟨a, c, e, h, h0⟩ => ⟨a, c, e, owns_below h hb, h0⟩, fun _ _ _ _ _ h => h, fun _ _ _ _ _ h => h, fun _ _ _ _ _ h => h, fun _ _ _ _ _ h => h, fun _ _ _ _ _ h => h, fun _ _ _ _ _ h => h, fun _ _ _ _ _ h => h, fun _ _ _ _ _ h => h, fun _ _ _ _ _ h => h, fun _ _ _ _ hb ⟨g, e, h⟩ => ⟨g, e, owns_below h hb⟩, fun _ _ _ _ hb ⟨a, c, e, h⟩ => ⟨a, c, e, owns_below h hb⟩, trivial⟩ ⟨.inr (fun _ _ _ _ hT ⟨g, e, h⟩ => ⟨g, e, hT.2 _ _ _ _ _ (Nat.zero_le _) h⟩), .inr (fun _ _ _ _ _ h => h), .inr (fun _ _ _ _ hT ⟨a, c, e, h, h0⟩ => ⟨a, c, e, hT.2 _ _ _ _ _ (by omega) h, h0⟩), .inr (fun _ _ _ _ _ h => h), .inr (fun _ _ _ _ _ h => h), .inr (fun _ _ _ _ _ h => h), .inr (fun _ _ _ _ _ h => h), .inr (fun _ _ _ _ _ h => h), .inr (fun _ _ _ _ _ h => h), .inr (fun _ _ _ _ _ h => h), .inr (fun _ _ _ _ _ h => h), .inr (fun _ _ _ _ _ h => h), .inr (fun _ _ _ _ hT ⟨g, e, h⟩ => ⟨g, e, hT.2 _ _ _ _ _ (by omega) h⟩), .inl rfl, trivial⟩) ?_ ?_
        · simp only [List.take_succ_cons, List.take_zero]
          refine ⟨?_, ?_, ?_, ?_, ?_, ?_, ?_, ?_, ?_, ?_, ?_, ?_, ?_, ?_, trivial⟩
          · intro ρ w1 L hG hny hfr hd
            have fc : ∀ z, ρ (.const z) = z := fun _ => hfr _ rfl
            have ff : ∀ z, ρ (.func z) = .func (.func z) #[] #[] := fun _ => hfr _ rfl
            refine gives_val (u := .slice (some ⟨w1.heap.size, 0, none⟩) 0 0) (w' := w1.alloc (.cells #[] 42)) (by go_simp) ⟨st1_below (by decide) ((Below.refl _ _).alloc (Nat.le_refl _) _), ⟨_, rfl, owns_mono (owns_empty w1 42 2) hG.size⟩, (fun _ hk => by cases hk), hG.alloc hG.size _⟩
          · intro ρ w1 L hG hny hfr hd
            have fc : ∀ z, ρ (.const z) = z := fun _ => hfr _ rfl
            have ff : ∀ z, ρ (.func z) = .func (.func z) #[] #[] := fun _ => hfr _ rfl
            have f3 : ρ (.tmp 3) = .slice (some ⟨be, oe, none⟩) m cb := hfr _ rfl
            refine gives_val (u := .slice (some ⟨be, oe, none⟩) m cb) (w' := w1) (by go_simp) ⟨st1_below (by decide) (Below.refl _ _), rfl, (fun _ hk => by cases hk), hG⟩
          · intro ρ w1 L hG hny hfr hd
            have fc : ∀ z, ρ (.const z) = z := fun _ => hfr _ rfl
            have ff : ∀ z, ρ (.func z) = .func (.func z) #[] #[] := fun _ => hfr _ rfl
            obtain ⟨d0, d1, -⟩ := hd
            have d0 : ∃ gz : Nat, (ρ (.tmp 26)) = .slice (some ⟨gz, 0, none⟩) 0 0 ∧ w1.ownsRow w4.heap.size 42 2 (.slice (some ⟨gz, 0, none⟩) 0 0) 0 [] := d0
            have d1 : (ρ (.tmp 27)) = .slice (some ⟨be, oe, none⟩) m cb := d1
            obtain ⟨g, d0, hg⟩ := d0
            refine gives_append_new _ _ 31 rfl Try.underlying31 info_edge rfl (by decide) d0 hg d1 HLE.out (HE.out.below hG) (edges_one _) (by omega) (by decide) hG.size ?_
            intro a c w2 hown hb hf h0
            exact ⟨st1_below (by decide) (hb), ⟨a, c, rfl, hown, h0⟩, (fun _ hk => by cases hk), hG.trans (hb.mono hG.size)⟩
          · intro ρ w1 L hG hny hfr hd
            have fc : ∀ z, ρ (.const z) = z := fun _ => hfr _ rfl
            have ff : ∀ z, ρ (.func z) = .func (.func z) #[] #[] := fun _ => hfr _ rfl
            have f3 : ρ (.tmp 3) = .slice (some ⟨be, oe, none⟩) m cb := hfr _ rfl
            refine gives_val (u := .slice (some ⟨be, oe, none⟩) m cb) (w' := w1) (by go_simp) ⟨st1_below (by decide) (Below.refl _ _), rfl, (fun _ hk => by cases hk), hG⟩
          · intro ρ w1 L hG hny hfr hd
            have fc : ∀ z, ρ (.const z) = z := fun _ => hfr _ rfl
            have ff : ∀ z, ρ (.func z) = .func (.func z) #[] #[] := fun _ => hfr _ rfl
            obtain ⟨d0, -⟩ := hd
            have d0 : (ρ (.tmp 29)) = .slice (some ⟨be, oe, none⟩) m cb := d0
            refine gives_val (u := .pointer (some ⟨be, oe, none⟩)) (w' := w1) (by go_simp; intro hz0; omega) ⟨st1_below (by decide) (Below.refl _ _), rfl, (fun _ hk => by cases hk), hG⟩
          · intro ρ w1 L hG hny hfr hd
            have fc : ∀ z, ρ (.const z) = z := fun _ => hfr _ rfl
            have ff : ∀ z, ρ (.func z) = .func (.func z) #[] #[] := fun _ => hfr _ rfl
            obtain ⟨d0, -⟩ := hd
            have d0 : (ρ (.tmp 30)) = .pointer (some ⟨be, oe, none⟩) := d0
            refine gives_val (u := .pointer (some ⟨be, oe + 1, none⟩)) (w' := w1) (by go_simp) ⟨st1_below (by decide) (Below.refl _ _), rfl, (fun _ hk => by cases hk), hG⟩
          · intro ρ w1 L hG hny hfr hd
            have fc : ∀ z, ρ (.const z) = z := fun _ => hfr _ rfl
            have ff : ∀ z, ρ (.func z) = .func (.func z) #[] #[] := fun _ => hfr _ rfl
            obtain ⟨d0, -⟩ := hd
            have d0 : (ρ (.tmp 31)) = .pointer (some ⟨be, oe + 1, none⟩) := d0
            have g1 := keepc hG g1
            refine gives_val (u := .int .i64 e0.2) (w' := w1) (by go_simp) ⟨st1_below (by decide) (Below.refl _ _), rfl, (fun _ hk => by cases hk), hG⟩
          · intro ρ w1 L hG hny hfr hd
            have fc : ∀ z, ρ (.const z) = z := fun _ => hfr _ rfl
            have ff : ∀ z, ρ (.func z) = .func (.func z) #[] #[] := fun _ => hfr _ rfl
            have f3 : ρ (.tmp 3) = .slice (some ⟨be, oe, none⟩) m cb := hfr _ rfl
            refine gives_val (u := .slice (some ⟨be, oe, none⟩) m cb) (w' := w1) (by go_simp) ⟨st1_below (by decide) (Below.refl _ _), rfl, (fun _ hk => by cases hk), hG⟩
          · intro ρ w1 L hG hny hfr hd
            have fc : ∀ z, ρ (.const z) = z := fun _ => hfr _ rfl
            have ff : ∀ z, ρ (.func z) = .func (.func z) #[] #[] := fun _ => hfr _ rfl
            obtain ⟨d0, -⟩ := hd
            have d0 : (ρ (.tmp 33)) = .slice (some ⟨be, oe, none⟩) m cb := d0
            refine gives_val (u := .pointer (some ⟨be, oe, none⟩)) (w' := w1) (by go_simp; intro hz0; omega) ⟨st1_below (by decide) (Below.refl _ _), rfl, (fun _ hk => by cases hk), hG⟩
          · intro ρ w1 L hG hny hfr hd
            have fc : ∀ z, ρ (.const z) = z := fun _ => hfr _ rfl
            have ff : ∀ z, ρ (.func z) = .func (.func z) #[] #[] := fun _ => hfr _ rfl
            obtain ⟨d0, -⟩ := hd
            have d0 : (ρ (.tmp 34)) = .pointer (some ⟨be, oe, none⟩) := d0
            refine gives_val (u := .pointer (some ⟨be, oe, none⟩)) (w' := w1) (by go_simp) ⟨st1_below (by decide) (Below.refl _ _), rfl, (fun _ hk => by cases hk), hG⟩
          · intro ρ w1 L hG hny hfr hd
            have fc : ∀ z, ρ (.const z) = z := fun _ => hfr _ rfl
            have ff : ∀ z, ρ (.func z) = .func (.func z) #[] #[] := fun _ => hfr _ rfl
            obtain ⟨d0, -⟩ := hd
            have d0 : (ρ (.tmp 35)) = .pointer (some ⟨be, oe, none⟩) := d0
            have g0 := keepc hG g0
            refine gives_val (u := .int .i64 e0.1) (w' := w1) (by go_simp) ⟨st1_below (by decide) (Below.refl _ _), rfl, (fun _ hk => by cases hk), hG⟩
          · intro ρ w1 L hG hny hfr hd
            have fc : ∀ z, ρ (.const z) = z := fun _ => hfr _ rfl
            have ff : ∀ z, ρ (.func z) = .func (.func z) #[] #[] := fun _ => hfr _ rfl
            obtain ⟨d0, d1, -⟩ := hd
            have d0 : (ρ (.tmp 32)) = .int .i64 e0.2 := d0
            have d1 : (ρ (.tmp 36)) = .int .i64 e0.1 := d1
            refine gives_val (u := .agg #[.int .i64 e0.2, .int .i64 e0.1]) (w' := w1) (by go_simp) ⟨st1_below (by decide) (Below.refl _ _), rfl, (fun _ hk => by cases hk), hG⟩
          · intro ρ w1 L hG hny hfr hd
            have fc : ∀ z, ρ (.const z) = z := fun _ => hfr _ rfl
            have ff : ∀ z, ρ (.func z) = .func (.func z) #[] #[] := fun _ => hfr _ rfl
            obtain ⟨d0, -⟩ := hd
            have d0 : (ρ (.tmp 37)) = .agg #[.int .i64 e0.2, .int .i64 e0.1] := d0
            refine gives_val (u := .slice (some ⟨w1.heap.size, 0, none⟩) 1 1) (w' := w1.alloc (.cells #[.int .i64 e0.2, .int .i64 e0.1] 42)) (by go_simp) ⟨st1_below (by decide) ((Below.refl _ _).alloc (Nat.le_refl _) _), ⟨_, rfl, owns_of_blk (Blk.new w1 #[.int .i64 e0.2, .int .i64 e0.1] 42) hG.size rfl (by decide)⟩, (fun _ hk => by cases hk), hG.alloc hG.size _⟩
          · intro ρ w1 L hG hny hfr hd
            have fc : ∀ z, ρ (.const z) = z := fun _ => hfr _ rfl
            have ff : ∀ z, ρ (.func z) = .func (.func z) #[] #[] := fun _ => hfr _ rfl
            obtain ⟨d0, d1, -⟩ := hd
            have d0 : ∃ (az : Option Addr) (cz : Nat), (ρ (.tmp 28)) = .slice az m cz ∧ w1.ownsRow w4.heap.size 42 2 (.slice az m cz) m (edges (e0 :: tl)) ∧ (m = 0 → cz = 0) := d0
            have d1 : ∃ gz : Nat, (ρ (.tmp 38)) = .slice (some ⟨gz, 0, none⟩) 1 1 ∧ w1.ownsRow w4.heap.size 42 2 (.slice (some ⟨gz, 0, none⟩) 1 1) 1 (edge (e0.2, e0.1)) := d1
            obtain ⟨azo, czo, d0, hown, -⟩ := d0
            obtain ⟨gz2, d1, hg2⟩ := d1
            refine gives_append_keep _ _ 31 rfl Try.underlying31 info_edge rfl (by decide) d0 hown d1 rfl (Rd.of_owns hg2) ONEf.out (by omega) (by decide) hG.size ?_
            intro a' c' w2 hown2 hgr hkeep
            have hbB := below_of_grown hgr hG.size (fun q hq => (owns_row hown q hq).1)
            exact ⟨st1_own ⟨hbB, hkeep⟩, ⟨a', c', rfl, hown2⟩, (fun _ hk => by cases hk), hG.trans hbB⟩
        intro vs w2 L hG hlen hall hap hbd
        obtain ⟨xv0, vs0, rfl, hl0⟩ := len_cons hlen
        obtain ⟨xv1, vs1, rfl, hl1⟩ := len_cons hl0
        obtain ⟨xv2, vs2, rfl, hl2⟩ := len_cons hl1
        obtain ⟨xv3, vs3, rfl, hl3⟩ := len_cons hl2
        obtain ⟨xv4, vs4, rfl, hl4⟩ := len_cons hl3
        obtain ⟨xv5, vs5, rfl, hl5⟩ := len_cons hl4
        obtain ⟨xv6, vs6, rfl, hl6⟩ := len_cons hl5
        obtain ⟨xv7, vs7, rfl, hl7⟩ := len_cons hl6
        obtain ⟨xv8, vs8, rfl, hl8⟩ := len_cons hl7
        obtain ⟨xv9, vs9, rfl, hl9⟩ := len_cons hl8
        obtain ⟨xv10, vs10, rfl, hl10⟩ := len_cons hl9
        obtain ⟨xv11, vs11, rfl, hl11⟩ := len_cons hl10
        obtain ⟨xv12, vs12, rfl, hl12⟩ := len_cons hl11
        obtain ⟨xv13, vs13, rfl, hl13⟩ := len_cons hl12
        obtain rfl := len_nil hl13
        clear hlen hl0 hl1 hl2 hl3 hl4 hl5 hl6 hl7 hl8 hl9 hl10 hl11 hl12 hl13
        simp only [List.take_succ_cons, List.take_zero, List.drop_succ_cons, List.drop_zero] at hall ⊢
        obtain ⟨t0', t1', t2', t3', t4', t5', t6', t7', t8', t9', t10', t11', t12', t13', -⟩ := hall
        have hv0 : ∃ gz : Nat, xv0 = .slice (some ⟨gz, 0, none⟩) 0 0 ∧ w2.ownsRow w4.heap.size 42 2 (.slice (some ⟨gz, 0, none⟩) 0 0) 0 [] := t0'
        have hv1 : xv1 = .slice (some ⟨be, oe, none⟩) m cb := t1'
        have hv2 : ∃ (az : Option Addr) (cz : Nat), xv2 = .slice az m cz ∧ w2.ownsRow w4.heap.size 42 2 (.slice az m cz) m (edges (e0 :: tl)) ∧ (m = 0 → cz = 0) := t2'
        have hv3 : xv3 = .slice (some ⟨be, oe, none⟩) m cb := t3'
        have hv4 : xv4 = .pointer (some ⟨be, oe, none⟩) := t4'
        have hv5 : xv5 = .pointer (some ⟨be, oe + 1, none⟩) := t5'
        have hv6 : xv6 = .int .i64 e0.2 := t6'
        have hv7 : xv7 = .slice (some ⟨be, oe, none⟩) m cb := t7'
        have hv8 : xv8 = .pointer (some ⟨be, oe, none⟩) := t8'
        have hv9 : xv9 = .pointer (some ⟨be, oe, none⟩) := t9'
        have hv10 : xv10 = .int .i64 e0.1 := t10'
        have hv11 : xv11 = .agg #[.int .i64 e0.2, .int .i64 e0.1] := t11'
        have hv12 : ∃ gz : Nat, xv12 = .slice (some ⟨gz, 0, none⟩) 1 1 ∧ w2.ownsRow w4.heap.size 42 2 (.slice (some ⟨gz, 0, none⟩) 1 1) 1 (edge (e0.2, e0.1)) := t12'
        have hv13 : ∃ (az : Option Addr) (cz : Nat), xv13 = .slice az (m + 1) cz ∧ w2.ownsRow w4.heap.size 42 2 (.slice az (m + 1) cz) (m + 1) (edges (e0 :: tl) ++ edge (e0.2, e0.1)) := t13'
        clear t0' t1' t2' t3' t4' t5' t6' t7' t8' t9' t10' t11' t12' t13'
        clear hap hbd
        subst hv1 hv3 hv4 hv5 hv6 hv7 hv8 hv9 hv10 hv11
        simp only [putAll, Act.put, List.setIfInBounds_toArray, List.set_cons_succ, List.set_cons_zero]
        obtain ⟨a5, c5, rfl, hown5⟩ := hv13
        have hrd5 : Rd w2 a5 (edges ((e0 :: tl) ++ [(e0.2, e0.1)])) := by
          have := Rd.of_owns hown5
          simpa [edges] using this
        have HR5 := Lib.hid hrd5
        have HB5 := Lib.hid (HB.out.trans (hG.mono HB.out.size))
        have HL5 : Hid (((e0 :: tl) ++ [(e0.2, e0.1)]).length = m + 1) := Lib.hid (by rw [List.length_append, HN.out]; rfl)
        clear hown5 hrd5 hG hv0 hv2 hv12
        cases D
        · go_wp2_with fail
          refine (implCircle_any a5 (m + 1) c5 _ _ (by omega) HL5.out HR5.out).mono ?_
          rintro e w6 ⟨rfl, hb6⟩
          rw [back_circ]
          go_wp2
          go_ret
          exact ⟨rfl, (HB5.out.trans (hb6.mono HB5.out.size))⟩
        · have hct : C = true := HDC.out rfl
          subst hct
          go_wp2_with fail
          refine (implCircle_any a5 (m + 1) c5 _ _ (by omega) HL5.out HR5.out).mono ?_
          rintro e w6 ⟨rfl, hb6⟩
          rw [back_circ]
          go_wp2
          go_ret
          exact ⟨rfl, (HB5.out.trans (hb6.mono HB5.out.size))⟩
  · go_enter Try.func8, Try.ntmps8
    go_wp2
    go_ret
    exact ⟨rfl, Below.refl _ _⟩

end Go.Proofs.Ytklbjnphfpjgeaa
