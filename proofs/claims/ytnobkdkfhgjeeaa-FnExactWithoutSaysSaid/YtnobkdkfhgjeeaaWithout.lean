/- WithoutSays: plain words, the program's own text. -/
import Derived.Test.YtnobkdkfhgjeeaaDelFunc2
namespace Go.Proofs.Ytnobkdkfhgjeeaa
open Go.RowKit

def isSay (o : OpD) : Bool := decide (o.kind = 1)
def hush (l : List OpD) : List OpD := l.filter (fun o => !(isSay o))
/-- The first k threads have been changed. -/
def hushed (ts : List (List OpD)) (k : Nat) : List (List OpD) := (ts.take k).map hush ++ ts.drop k
def withoutRes (p : Pg) : Option Pg := some (p.thr (p.threads.map hush))
def withoutSays (p : Pg) : Option Pg := changeP p 0 (withoutRes p)

theorem hushed_zero (ts : List (List OpD)) : hushed ts 0 = ts := by simp [hushed]
theorem hushed_all (ts : List (List OpD)) : hushed ts ts.length = ts.map hush := by simp [hushed]
theorem hushed_len (ts : List (List OpD)) (k : Nat) : (hushed ts k).length = ts.length := by
  unfold hushed
  rw [List.length_append, List.length_map, List.length_take, List.length_drop]; omega
theorem hushed_get (ts : List (List OpD)) (k : Nat) (hk : k < ts.length) : (hushed ts k).getD k [] = ts.getD k [] := by
  unfold hushed
  rw [List.getD_eq_getElem?_getD, List.getElem?_append_right (by simp; omega), List.length_map, List.length_take, Nat.min_eq_left (by omega), Nat.sub_self, List.getElem?_drop, Nat.add_zero, ← List.getD_eq_getElem?_getD]
theorem hushed_succ (ts : List (List OpD)) (k : Nat) (hk : k < ts.length) : (hushed ts k).set k (hush (ts.getD k [])) = hushed ts (k + 1) := by
  unfold hushed
  have e : ((ts.take k).map hush).length = k := by rw [List.length_map, List.length_take]; omega
  rw [List.set_append_right _ _ (by omega), e, Nat.sub_self, List.drop_eq_getElem_cons hk, List.set_cons_zero, List.take_add_one, List.getElem?_eq_getElem hk]
  have e2 : ts.getD k [] = ts[k] := by simp [List.getD, hk]
  rw [e2]
  simp only [List.map_append, Option.toList_some, List.map_cons, List.map_nil, List.append_assoc, List.cons_append, List.nil_append]
theorem hush_len (l : List OpD) : (hush l).length ≤ l.length := List.length_filter_le _ _

theorem sayFn_any (o : OpD) (w : World) :
    Calls Try.prog 73 (#[opagg o] ++ #[]) w fun e w' => e = .returned (.bool (isSay o)) ∧ Below w.heap.size w w' := by
  have hd : (o.kind == 1) = isSay o := by unfold isSay; rfl
  have HD := Lib.hid hd
  clear hd
  go_enter Try.func73, Try.ntmps73
  go_wp2
  go_ret
  exact ⟨ret_bool HD.out, (Below.refl _ _).alloc (Nat.le_refl _) _⟩

set_option maxRecDepth 100000 in
set_option maxHeartbeats 4000000 in
theorem withoutFn_any (p : Pg) (H : World) (hsm : SmallP p) :
    Changes H 71 #[] p (withoutRes p) := by
  intro u us W Bq hB hq hO hnd hfr kQ
  have hnt : p.threads.length = u.nt := by have := hO.ot.len; simpa [Pg.cells] using this
  have hnl := hsm.lt
  have e4 := kQ.cell 4 rfl
  have HNT := Lib.hid hnt
  have HSM := Lib.hid hsm.inn
  have hnt2 : u.nt ≤ 1048576 := by omega
  have HND := Lib.hid (fpP_rows hnd)
  have HFR := Lib.hid hfr
  have HO := Lib.hid hO
  have HK := Lib.hid kQ
  have HB := Lib.hid hB
  clear hnt hnl hnd hfr hO kQ hB hsm
  go_enter Try.func71, Try.ntmps71
  go_wp2
  go_loopw [9] (fun vk wr => ∃ (k : Nat) (us' : List Value), vk = .int .i64 k ∧ k ≤ u.nt ∧ Hid (OwnP wr u us' (p.thr (hushed p.threads k)).cells) ∧ Hid (fpV us' = fpV us) ∧ Hid (Blk wr Bq #[.slice u.s u.ns u.cs, .slice u.g u.ng u.cg, .slice u.b u.nb u.cb, .slice u.r u.nr u.cr, .slice u.t u.nt u.ct] 30) ∧ Hid (Below H.heap.size H wr)) (fun vk _ => u.nt - (intOf vk).toNat)
  case atStart =>
    refine ⟨0, us, rfl, by omega, ?_, Lib.hid rfl, HK, HB⟩
    rw [hushed_zero]; exact HO
  case round =>
    obtain ⟨k, us', rfl, hk, HOr, HFr, HKr, HBr⟩ := hrel
    by_cases hlt : k < u.nt
    · obtain ⟨T, eT, hT1, hT2⟩ := owns_at HOr.out.ot.out (by omega)
      obtain ⟨xa, xc, exa, hrow⟩ := HOr.out.row hlt
      have erow : (p.thr (hushed p.threads k)).threads.getD k [] = p.threads.getD k [] := hushed_get _ _ (by rw [HNT.out]; omega)
      rw [erow] at exa hrow
      have hml : (p.threads.getD k []).length ≤ 1048576 := HSM.out k
      obtain ⟨m, hm⟩ : ∃ m, m = (p.threads.getD k []).length := ⟨_, rfl⟩
      rw [← hm] at exa hrow hml
      have hot := HOr.out.ot.out
      have hvl := HOr.out.ot.vlen
      have e4 := HKr.out.cell 4 rfl
      rw [eT] at hot e4
      have ga : wr.cell? ⟨T, k, none⟩ = some (.slice xa m xc) := by rw [hot.cellAt k (by omega), ← exa]; simp [List.getD, hvl, hlt]
      have hHT : H.heap.size ≤ T := HFR.out T (by unfold fpP fpT; rw [eT]; simp [rowOf])
      have hTX : T ∉ (rowOf xa).toList := fun h => by
        have h' : rowOf xa = some T := by simpa using h
        exact owns_owns hot hrow types_ne.2.1.symm T rfl h'
      have hQX : Bq ∉ (rowOf xa).toList := fun h => by
        have h' : rowOf xa = some Bq := by simpa using h
        exact blk_owns HKr.out hrow types_ne.2.2.2.2.1 h'
      have hQT : Bq ≠ T := fun e => blk_owns HKr.out hot types_ne.2.2.2.1 (by rw [e]; rfl)
      have hXH : ∀ q ∈ (rowOf xa).toList, H.heap.size ≤ q := fun q hq' => by
        have hfe := HFr.out
        refine HFR.out q ?_
        have hm' : q ∈ fpV us' := mem_fpV (i := k) (by omega) (by rw [exa, ownBlock_slice]; simpa using hq')
        rw [hfe] at hm'
        unfold fpP
        rw [fpT_eq]
        simp [hm']
      have i0 : (0 : Int) ≤ (k : Int) := by omega
      have i1 : (k : Int) < (u.nt : Int) := by omega
      have HEXA := Lib.hid exa
      have HROW := Lib.hid hrow
      have HOT := Lib.hid hot
      have HM := Lib.hid hm
      have HET := Lib.hid eT
      clear exa hrow hvl hot hm erow eT
      go_wp2
      refine wp_region_steps 13 (by kernel_rfl) (by kernel_rfl) [fun dz uz wz => uz = .pointer (some ⟨Bq, 0, none⟩), fun dz uz wz => uz = .pointer (some ⟨Bq, 0, none⟩), fun dz uz wz => uz = .pointer (some ⟨Bq, 4, none⟩), fun dz uz wz => uz = .slice (some ⟨T, 0, none⟩) u.nt u.ct, fun dz uz wz => uz = .int .i64 k, fun dz uz wz => uz = .pointer (some ⟨Bq, 0, none⟩), fun dz uz wz => uz = .pointer (some ⟨Bq, 0, none⟩), fun dz uz wz => uz = .pointer (some ⟨Bq, 4, none⟩), fun dz uz wz => uz = .slice (some ⟨T, 0, none⟩) u.nt u.ct, fun dz uz wz => uz = .int .i64 k, fun dz uz wz => uz = .pointer (some ⟨T, k, none⟩), fun dz uz wz => uz = .slice xa m xc, fun dz uz wz => (∃ m' c' : Nat, uz = .slice xa m' c' ∧ wz.ownsRow 0 53 3 (.slice xa m' c') m' (opsV (hush (p.threads.getD k []))) ∧ wr.grownBy wz (rowOf xa))] (St1 12 (Touch (rowOf xa).toList)) (fun _ _ => none) (Stage 12 (rowOf xa).toList wr) (Stage.start _ _ _) (st1_size (fun _ _ h => h.size)) (stab1_of ⟨fun _ _ _ _ _ h => h, fun _ _ _ _ _ h => h, fun _ _ _ _ _ h => h, fun _ _ _ _ _ h => h, fun _ _ _ _ _ h => h, fun _ _ _ _ _ h => h, fun _ _ _ _ _ h => h, fun _ _ _ _ _ h => h, fun _ _ _ _ _ h => h, fun _ _ _ _ _ h => h, fun _ _ _ _ _ h => h, fun _ _ _ _ _ h => h, fun _ _ _ _ hb ⟨a, b, e, h, g⟩ => ⟨a, b, e, owns_below h hb, grown_trans g (grown_below hb)⟩, trivial⟩ ⟨.inr (fun _ _ _ _ _ h => h), .inr (fun _ _ _ _ _ h => h), .inr (fun _ _ _ _ _ h => h), .inr (fun _ _ _ _ _ h => h), .inr (fun _ _ _ _ _ h => h), .inr (fun _ _ _ _ _ h => h), .inr (fun _ _ _ _ _ h => h), .inr (fun _ _ _ _ _ h => h), .inr (fun _ _ _ _ _ h => h), .inr (fun _ _ _ _ _ h => h), .inr (fun _ _ _ _ _ h => h), .inr (fun _ _ _ _ _ h => h), .inl rfl, trivial⟩) ?_ ?_
      · simp only [List.take_succ_cons, List.take_zero]
        refine ⟨?_, ?_, ?_, ?_, ?_, ?_, ?_, ?_, ?_, ?_, ?_, ?_, ?_, trivial⟩
        · intro ρ w1 L hG hny hfr hd
          have fc : ∀ z, ρ (.const z) = z := fun _ => hfr _ rfl
          have ff : ∀ z, ρ (.func z) = .func (.func z) #[] #[] := fun _ => hfr _ rfl
          have f0 : ρ (.tmp 0) = .pointer (some ⟨Bq, 0, none⟩) := hfr _ rfl
          refine gives_val (u := .pointer (some ⟨Bq, 0, none⟩)) (w' := w1) (by go_simp) ⟨st1_below (by decide) (Below.refl _ _), rfl, (fun _ hk => by cases hk), hG.step (by decide) (Below.refl _ _)⟩
        · intro ρ w1 L hG hny hfr hd
          have fc : ∀ z, ρ (.const z) = z := fun _ => hfr _ rfl
          have ff : ∀ z, ρ (.func z) = .func (.func z) #[] #[] := fun _ => hfr _ rfl
          obtain ⟨d0, -⟩ := hd
          have d0 : (ρ (.tmp 12)) = .pointer (some ⟨Bq, 0, none⟩) := d0
          refine gives_val (u := .pointer (some ⟨Bq, 0, none⟩)) (w' := w1) (by go_simp) ⟨st1_below (by decide) (Below.refl _ _), rfl, (fun _ hk => by cases hk), hG.step (by decide) (Below.refl _ _)⟩
        · intro ρ w1 L hG hny hfr hd
          have fc : ∀ z, ρ (.const z) = z := fun _ => hfr _ rfl
          have ff : ∀ z, ρ (.func z) = .func (.func z) #[] #[] := fun _ => hfr _ rfl
          obtain ⟨d0, -⟩ := hd
          have d0 : (ρ (.tmp 13)) = .pointer (some ⟨Bq, 0, none⟩) := d0
          refine gives_val (u := .pointer (some ⟨Bq, 4, none⟩)) (w' := w1) (by go_simp) ⟨st1_below (by decide) (Below.refl _ _), rfl, (fun _ hk => by cases hk), hG.step (by decide) (Below.refl _ _)⟩
        · intro ρ w1 L hG hny hfr hd
          have fc : ∀ z, ρ (.const z) = z := fun _ => hfr _ rfl
          have ff : ∀ z, ρ (.func z) = .func (.func z) #[] #[] := fun _ => hfr _ rfl
          obtain ⟨d0, -⟩ := hd
          have d0 : (ρ (.tmp 14)) = .pointer (some ⟨Bq, 4, none⟩) := d0
          have e4 := cell_touch hG.2 e4 (hQX)
          refine gives_val (u := .slice (some ⟨T, 0, none⟩) u.nt u.ct) (w' := w1) (by go_simp) ⟨st1_below (by decide) (Below.refl _ _), rfl, (fun _ hk => by cases hk), hG.step (by decide) (Below.refl _ _)⟩
        · intro ρ w1 L hG hny hfr hd
          have fc : ∀ z, ρ (.const z) = z := fun _ => hfr _ rfl
          have ff : ∀ z, ρ (.func z) = .func (.func z) #[] #[] := fun _ => hfr _ rfl
          have f3 : ρ (.tmp 3) = .int .i64 k := hfr _ rfl
          refine gives_val (u := .int .i64 k) (w' := w1) (by go_simp) ⟨st1_below (by decide) (Below.refl _ _), rfl, (fun _ hk => by cases hk), hG.step (by decide) (Below.refl _ _)⟩
        · intro ρ w1 L hG hny hfr hd
          have fc : ∀ z, ρ (.const z) = z := fun _ => hfr _ rfl
          have ff : ∀ z, ρ (.func z) = .func (.func z) #[] #[] := fun _ => hfr _ rfl
          have f0 : ρ (.tmp 0) = .pointer (some ⟨Bq, 0, none⟩) := hfr _ rfl
          refine gives_val (u := .pointer (some ⟨Bq, 0, none⟩)) (w' := w1) (by go_simp) ⟨st1_below (by decide) (Below.refl _ _), rfl, (fun _ hk => by cases hk), hG.step (by decide) (Below.refl _ _)⟩
        · intro ρ w1 L hG hny hfr hd
          have fc : ∀ z, ρ (.const z) = z := fun _ => hfr _ rfl
          have ff : ∀ z, ρ (.func z) = .func (.func z) #[] #[] := fun _ => hfr _ rfl
          obtain ⟨d0, -⟩ := hd
          have d0 : (ρ (.tmp 17)) = .pointer (some ⟨Bq, 0, none⟩) := d0
          refine gives_val (u := .pointer (some ⟨Bq, 0, none⟩)) (w' := w1) (by go_simp) ⟨st1_below (by decide) (Below.refl _ _), rfl, (fun _ hk => by cases hk), hG.step (by decide) (Below.refl _ _)⟩
        · intro ρ w1 L hG hny hfr hd
          have fc : ∀ z, ρ (.const z) = z := fun _ => hfr _ rfl
          have ff : ∀ z, ρ (.func z) = .func (.func z) #[] #[] := fun _ => hfr _ rfl
          obtain ⟨d0, -⟩ := hd
          have d0 : (ρ (.tmp 18)) = .pointer (some ⟨Bq, 0, none⟩) := d0
          refine gives_val (u := .pointer (some ⟨Bq, 4, none⟩)) (w' := w1) (by go_simp) ⟨st1_below (by decide) (Below.refl _ _), rfl, (fun _ hk => by cases hk), hG.step (by decide) (Below.refl _ _)⟩
        · intro ρ w1 L hG hny hfr hd
          have fc : ∀ z, ρ (.const z) = z := fun _ => hfr _ rfl
          have ff : ∀ z, ρ (.func z) = .func (.func z) #[] #[] := fun _ => hfr _ rfl
          obtain ⟨d0, -⟩ := hd
          have d0 : (ρ (.tmp 19)) = .pointer (some ⟨Bq, 4, none⟩) := d0
          have e4 := cell_touch hG.2 e4 (hQX)
          refine gives_val (u := .slice (some ⟨T, 0, none⟩) u.nt u.ct) (w' := w1) (by go_simp) ⟨st1_below (by decide) (Below.refl _ _), rfl, (fun _ hk => by cases hk), hG.step (by decide) (Below.refl _ _)⟩
        · intro ρ w1 L hG hny hfr hd
          have fc : ∀ z, ρ (.const z) = z := fun _ => hfr _ rfl
          have ff : ∀ z, ρ (.func z) = .func (.func z) #[] #[] := fun _ => hfr _ rfl
          have f3 : ρ (.tmp 3) = .int .i64 k := hfr _ rfl
          refine gives_val (u := .int .i64 k) (w' := w1) (by go_simp) ⟨st1_below (by decide) (Below.refl _ _), rfl, (fun _ hk => by cases hk), hG.step (by decide) (Below.refl _ _)⟩
        · intro ρ w1 L hG hny hfr hd
          have fc : ∀ z, ρ (.const z) = z := fun _ => hfr _ rfl
          have ff : ∀ z, ρ (.func z) = .func (.func z) #[] #[] := fun _ => hfr _ rfl
          obtain ⟨d0, d1, -⟩ := hd
          have d0 : (ρ (.tmp 20)) = .slice (some ⟨T, 0, none⟩) u.nt u.ct := d0
          have d1 : (ρ (.tmp 21)) = .int .i64 k := d1
          refine gives_val (u := .pointer (some ⟨T, k, none⟩)) (w' := w1) (by go_simp) ⟨st1_below (by decide) (Below.refl _ _), rfl, (fun _ hk => by cases hk), hG.step (by decide) (Below.refl _ _)⟩
        · intro ρ w1 L hG hny hfr hd
          have fc : ∀ z, ρ (.const z) = z := fun _ => hfr _ rfl
          have ff : ∀ z, ρ (.func z) = .func (.func z) #[] #[] := fun _ => hfr _ rfl
          obtain ⟨d0, -⟩ := hd
          have d0 : (ρ (.tmp 22)) = .pointer (some ⟨T, k, none⟩) := d0
          have ga := cell_touch hG.2 ga (hTX)
          refine gives_val (u := .slice xa m xc) (w' := w1) (by go_simp) ⟨st1_below (by decide) (Below.refl _ _), rfl, (fun _ hk => by cases hk), hG.step (by decide) (Below.refl _ _)⟩
        · intro ρ w1 L hG hny hfr hd
          have fc : ∀ z, ρ (.const z) = z := fun _ => hfr _ rfl
          have ff : ∀ z, ρ (.func z) = .func (.func z) #[] #[] := fun _ => hfr _ rfl
          obtain ⟨d0, -⟩ := hd
          have d0 : (ρ (.tmp 23)) = .slice xa m xc := d0
          have hL := hny 12 _ rfl (by kernel_rfl)
          have hbe := hG.1 hL
          have ho := owns_below HROW.out hbe
          refine gives_call (by go_simp; exact ⟨⟨rfl, rfl⟩, rfl⟩) ?_
          refine (deleteFuncOps_any 73 #[] isSay xa m xc (p.threads.getD k []) w1 (enters_of Try.func73 (by kernel_rfl) rfl) ho hml sayFn_any).mono ?_
          rintro e w2 ⟨m', c', rfl, ho2, hg2⟩
          have hT : Touch (rowOf xa).toList w1 w2 := Touch.of_grown hg2 (fun q hq => by simpa using hq)
          exact ⟨_, rfl, st1_own hT, ⟨m', c', rfl, ho2, grown_trans (grown_below hbe) hg2⟩, (fun _ hk => by cases hk), hG.own hT⟩
      intro vs w2 L hG hlen hall hap hbd
      obtain ⟨xv0, vs0, rfl, hl0⟩ := len_cons hlen
      obtain ⟨xv1, vs1, rfl, hl1⟩ := len_cons hl0
      obtain ⟨xv2, vs2, rfl, hl2⟩ := len_cons hl1
      obtain ⟨xv3, vs3, rfl, hl3⟩ := len_cons hl2
      obtain ⟨xv4, vs4, rfl, hl4⟩ := len_cons hl3
      obtain ⟨xv5, vs5, rfl, hl5⟩ := len_cons hl4
      obtain ⟨xv6, vs6, rfl, hl6⟩ := len_cons hl5
      obtain ⟨xv7, vs7, rfl, hl7⟩ := len_cons hl6
      obtain ⟨xv8, vs8, rfl, hl8⟩ := len_cons hl7
      obtain ⟨xv9, vs9, rfl, hl9⟩ := len_cons hl8
      obtain ⟨xv10, vs10, rfl, hl10⟩ := len_cons hl9
      obtain ⟨xv11, vs11, rfl, hl11⟩ := len_cons hl10
      obtain ⟨xv12, vs12, rfl, hl12⟩ := len_cons hl11
      obtain rfl := len_nil hl12
      clear hlen hl0 hl1 hl2 hl3 hl4 hl5 hl6 hl7 hl8 hl9 hl10 hl11 hl12
      simp only [List.take_succ_cons, List.take_zero, List.drop_succ_cons, List.drop_zero] at hall ⊢
      obtain ⟨t0', t1', t2', t3', t4', t5', t6', t7', t8', t9', t10', t11', t12', -⟩ := hall
      have hv0 : xv0 = .pointer (some ⟨Bq, 0, none⟩) := t0'
      have hv1 : xv1 = .pointer (some ⟨Bq, 0, none⟩) := t1'
      have hv2 : xv2 = .pointer (some ⟨Bq, 4, none⟩) := t2'
      have hv3 : xv3 = .slice (some ⟨T, 0, none⟩) u.nt u.ct := t3'
      have hv4 : xv4 = .int .i64 k := t4'
      have hv5 : xv5 = .pointer (some ⟨Bq, 0, none⟩) := t5'
      have hv6 : xv6 = .pointer (some ⟨Bq, 0, none⟩) := t6'
      have hv7 : xv7 = .pointer (some ⟨Bq, 4, none⟩) := t7'
      have hv8 : xv8 = .slice (some ⟨T, 0, none⟩) u.nt u.ct := t8'
      have hv9 : xv9 = .int .i64 k := t9'
      have hv10 : xv10 = .pointer (some ⟨T, k, none⟩) := t10'
      have hv11 : xv11 = .slice xa m xc := t11'
      have hv12 : (∃ m' c' : Nat, xv12 = .slice xa m' c' ∧ w2.ownsRow 0 53 3 (.slice xa m' c') m' (opsV (hush (p.threads.getD k []))) ∧ wr.grownBy w2 (rowOf xa)) := t12'
      clear t0' t1' t2' t3' t4' t5' t6' t7' t8' t9' t10' t11' t12'
      clear hap hbd
      subst hv0 hv1 hv2 hv3 hv4 hv5 hv6 hv7 hv8 hv9 hv10 hv11
      simp only [putAll, Act.put, List.setIfInBounds_toArray, List.set_cons_succ, List.set_cons_zero]
      obtain ⟨m', c', rfl, hrow2, hg⟩ := hv12
      have kQ2 : Blk w2 Bq _ _ := (hG.2.block Bq HKr.out.lt hQX).trans HKr.out
      have hot2 := owns_grown HOT.out hg (fun q h1 h2 => hTX (by simp [rowOf] at h1; rw [h2]; simp [h1]))
      have hvl := HOr.out.ot.vlen
      have fa := hot2.frozenAt k
      have gT : w2.cell? ⟨T, k, none⟩ = some (.slice xa m xc) := by rw [hot2.cellAt k (by omega), ← HEXA.out]; simp [List.getD, hvl, hlt]
      have HROW2 := Lib.hid hrow2
      have HG2 := Lib.hid hg
      have HG := Lib.hid hG.2
      have HKQ := Lib.hid kQ2
      clear hG hrow2 hg kQ2 hot2 hvl
      go_wp2
      go_roundw
      case rel =>
        have hnew := HROW2.out
        have hnd : (fpV us').Nodup := by rw [HFr.out]; exact HND.out
        have hfin := ownP_row HOr.out hnd HET.out hlt HEXA.out HG2.out hnew
        have e2 : (p.thr (hushed p.threads k)).thr ((p.thr (hushed p.threads k)).threads.set k (hush (p.threads.getD k []))) = p.thr (hushed p.threads (k + 1)) := by
          have h := hushed_succ p.threads k (by rw [HNT.out]; omega)
          show p.thr ((hushed p.threads k).set k (hush (p.threads.getD k []))) = _
          rw [h]
        rw [e2] at hfin
        have hB2 : Touch ((rowOf xa).toList ++ [T]) wr (w2.setCell ⟨T, k, none⟩ (.slice xa m' c')) := (HG.out.mono (fun q hq => by simp at hq; simp [hq])).set (by simp)
        refine ⟨k + 1, us'.set k (.slice xa m' c'), by go_num, by omega, Lib.hid hfin, Lib.hid (by rw [fpV_set HEXA.out]; exact HFr.out), Lib.hid (HKQ.out.other ⟨T, k, none⟩ _ hQT), Lib.hid (HBr.out.trans (hB2.below HBr.out.size (fun q hq => ?_)))⟩
        rcases List.mem_append.1 hq with hq | hq
        · exact hXH q hq
        · obtain rfl := List.mem_singleton.1 hq
          exact hHT
      case measure => simp [intOf]; omega
    · have hkn : k = u.nt := by omega
      subst hkn
      go_wp2
      go_ret
      refine ⟨rfl, HBr.out, fun p' hp' => ?_⟩
      obtain rfl : p.thr (p.threads.map hush) = p' := by simpa [withoutRes] using hp'
      have h := HOr.out
      rw [← HNT.out, hushed_all] at h
      exact ⟨u, HKr.out, h.rd⟩

theorem withoutRes_ok {p : Pg} (hs : SmallP p) (h1 : 0 < p.threads.length) : ∀ p', withoutRes p = some p' → SmallP p' ∧ 0 < p'.threads.length := by
  intro p' h
  obtain rfl : p.thr (p.threads.map hush) = p' := by simpa [withoutRes] using h
  have h2 := hs.lt
  refine ⟨hs.thr (by rw [List.length_map]; exact h2) (fun i => ?_), by show 0 < (p.threads.map hush).length; rw [List.length_map]; exact h1⟩
  by_cases hi : i < p.threads.length
  · have e : (p.threads.map hush).getD i [] = hush (p.threads.getD i []) := by simp [List.getD, hi]
    rw [e]
    exact Nat.le_trans (hush_len _) (hs.inn i)
  · have e : (p.threads.map hush).getD i [] = [] := by simp [List.getD, Nat.le_of_not_lt hi]
    rw [e]; simp

set_option maxRecDepth 100000 in
set_option maxHeartbeats 4000000 in
theorem implWithoutSays_any (v : PV) (p : Pg) (w : World) (hr : RdP w v p) (hz : Small v p) :
    Calls Try.prog 40 #[.agg #[.slice v.s v.ns v.cs, .slice v.g v.ng v.cg, .slice v.b v.nb v.cb, .slice v.r v.nr v.cr, .slice v.t v.nt v.ct]] w fun e w' => ∃ (u : PV) (us : List Value), e = .returned (.tuple #[.agg #[.slice u.s u.ns u.cs, .slice u.g u.ng u.cg, .slice u.b u.nb u.cb, .slice u.r u.nr u.cr, .slice u.t u.nt u.ct], .bool (withoutSays p).isSome]) ∧ OwnP w' u us ((withoutSays p).getD noPg).cells ∧ (fpP u us).Nodup ∧ (∀ k ∈ fpP u us, w.heap.size ≤ k) ∧ Below w.heap.size w w' := by
  have hsd := hz.data hr
  have HSD := Lib.hid hsd
  have hmf : ∀ (fn : Fn) (first cap : Array Value) (w : World), (Instr.makeFunc fn first cap).run Try.prog w = .ok (.func fn first cap) w := fun _ _ _ _ => rfl
  obtain ⟨W0, hW0⟩ : ∃ W0 : World, W0 = ((w.alloc (.cells #[.slice v.s v.ns v.cs, .slice v.g v.ng v.cg, .slice v.b v.nb v.cb, .slice v.r v.nr v.cr, .slice v.t v.nt v.ct] 30)).alloc (.cells #[.slice none 0 0, .slice none 0 0, .slice none 0 0, .slice none 0 0, .slice none 0 0] 30)) := ⟨_, rfl⟩
  have b0 : Below w.heap.size w ((w.alloc (.cells #[.slice v.s v.ns v.cs, .slice v.g v.ng v.cg, .slice v.b v.nb v.cb, .slice v.r v.nr v.cr, .slice v.t v.nt v.ct] 30)).alloc (.cells #[.slice none 0 0, .slice none 0 0, .slice none 0 0, .slice none 0 0, .slice none 0 0] 30)) := (((Below.refl _ _).alloc (Nat.le_refl _) _).alloc (by simp) _)
  have k0 : Blk ((w.alloc (.cells #[.slice v.s v.ns v.cs, .slice v.g v.ng v.cg, .slice v.b v.nb v.cb, .slice v.r v.nr v.cr, .slice v.t v.nt v.ct] 30)).alloc (.cells #[.slice none 0 0, .slice none 0 0, .slice none 0 0, .slice none 0 0, .slice none 0 0] 30)) w.heap.size #[.slice v.s v.ns v.cs, .slice v.g v.ng v.cg, .slice v.b v.nb v.cb, .slice v.r v.nr v.cr, .slice v.t v.nt v.ct] 30 := (Blk.new _ _ _).alloc _
  have kR : Blk ((w.alloc (.cells #[.slice v.s v.ns v.cs, .slice v.g v.ng v.cg, .slice v.b v.nb v.cb, .slice v.r v.nr v.cr, .slice v.t v.nt v.ct] 30)).alloc (.cells #[.slice none 0 0, .slice none 0 0, .slice none 0 0, .slice none 0 0, .slice none 0 0] 30)) (w.heap.size + 1) #[.slice none 0 0, .slice none 0 0, .slice none 0 0, .slice none 0 0, .slice none 0 0] 30 := by simpa using Blk.new (w.alloc (.cells #[.slice v.s v.ns v.cs, .slice v.g v.ng v.cg, .slice v.b v.nb v.cb, .slice v.r v.nr v.cr, .slice v.t v.nt v.ct] 30)) #[.slice none 0 0, .slice none 0 0, .slice none 0 0, .slice none 0 0, .slice none 0 0] 30
  have HW0 := Lib.hid hW0
  rw [← hW0] at b0 k0  kR
  clear hW0
  have q0 := k0.cell 0 rfl
  have q1 := k0.cell 1 rfl
  have q2 := k0.cell 2 rfl
  have q3 := k0.cell 3 rfl
  have q4 := k0.cell 4 rfl
  have hW := kR.lt
  have lt := Lib.hid hr.lt
  clear hsd
  go_enter Try.func40, Try.ntmps40
  go_wp2_with fail
  rw [← HW0.out]
  refine (change_any 71 #[] v p 0 (withoutRes p) _ (enters_of Try.func71 (by kernel_rfl) rfl) (hr.below b0) hz
    (fun hv h0 h1 H hH => withoutFn_any p H HSD.out) (fun hv h0 h1 p' hp' => withoutRes_ok HSD.out (by omega) p' hp')).mono ?_
  rintro e w1 ⟨u, us, rfl, ou, hnd, hfr, hb⟩
  have kR1 := kR.below hb
  have BE := b0.trans (hb.mono b0.size)
  have HO := Lib.hid ou
  have HFR := Lib.hid hfr
  have y0 := kR1.cell 0 rfl
  have x0 := kR1.fz 0
  have y1 := kR1.cell 1 rfl
  have x1 := kR1.fz 1
  have y2 := kR1.cell 2 rfl
  have x2 := kR1.fz 2
  have y3 := kR1.cell 3 rfl
  have x3 := kR1.fz 3
  have y4 := kR1.cell 4 rfl
  have x4 := kR1.fz 4
  clear ou hfr q0 q1 q2 q3 q4  k0  kR kR1
  go_wp2
  refine bodyPost_ret (v := .tuple #[.agg #[.slice u.s u.ns u.cs, .slice u.g u.ng u.cg, .slice u.b u.nb u.cb, .slice u.r u.nr u.cr, .slice u.t u.nt u.ct], .bool (withoutSays p).isSome]) (by simp [results, Try.results40, go_sem, y0, y1, y2, y3, y4, withoutSays]) rfl ⟨u, us, rfl, ?_, hnd, fun q hq => Nat.le_trans b0.size (HFR.out q hq), ?_⟩
  · refine HO.out.touch (S := [w.heap.size + 1]) ?_ (fun q hq hm => by have := HFR.out q hq; simp at hm; omega)
    exact Touch.set (Touch.set (Touch.set (Touch.set (Touch.set (Touch.refl _ _) (by simp)) (by simp)) (by simp)) (by simp)) (by simp)
  · exact ((((BE.setCell (by simp) _).setCell (by simp) _).setCell (by simp) _).setCell (by simp) _).setCell (by simp) _

end Go.Proofs.Ytnobkdkfhgjeeaa
