/- CutThread: the program's own text. -/
import Derived.Test.YtnobkdkfhgjeeabBaseE
import Derived.Test.YtnobkdkfhgjeeabBaseD
namespace Go.Proofs.Ytnobkdkfhgjeeab
open Go.RowKit

def cutRes (p : Pg) (t : Int) : Option Pg := if p.threads.length = 1 then none else some (p.thr (p.threads.eraseIdx t.toNat))
def cutThread (p : Pg) (t : Int) : Option Pg := changeP p t (cutRes p t)

theorem erase_get {α : Type} (d : α) (l : List α) (i k : Nat) : (l.eraseIdx i).getD k d = if k < i then l.getD k d else l.getD (k + 1) d := by
  simp only [List.getD, List.getElem?_eraseIdx]
  split <;> rfl

set_option maxRecDepth 100000 in
set_option maxHeartbeats 4000000 in
theorem cutFn_any (p : Pg) (t : Int) (H : World) (ba : Nat) (ha : H.cell? ⟨ba, 0, none⟩ = some (.int .i64 t)) (h0 : 0 ≤ t) (h1 : t < p.threads.length) (hlen : p.threads.length ≤ 1048576) :
    Changes H 39 #[.pointer (some ⟨ba, 0, none⟩)] p (cutRes p t) := by
  intro u us W Bq hB hq hO hnd hfr kQ
  have hnt : p.threads.length = u.nt := by have := hO.ot.len; simpa [Pg.cells] using this
  have ca := keepc hB ha
  have e4 := kQ.cell 4 rfl
  have hA := ha
  clear ha
  by_cases hc : p.threads.length = 1
  · have HN : Hid (cutRes p t = none) := Lib.hid (by unfold cutRes; rw [if_pos hc])
    rw [HN.out]
    have t0 : ((u.nt : Int) == 1) = true := by rw [← hnt, hc]; rfl
    go_enter Try.func39, Try.ntmps39
    go_wp2
    go_ret
    exact ⟨rfl, hB, by simp⟩
  have HN : Hid (cutRes p t = some (p.thr (p.threads.eraseIdx t.toNat))) := Lib.hid (by unfold cutRes; rw [if_neg hc])
  rw [HN.out]
  have t0 : ((u.nt : Int) == 1) = false := by simp; omega
  obtain ⟨na, rfl⟩ := Int.eq_ofNat_of_zero_le h0
  have hna : na < u.nt := by omega
  obtain ⟨T, eT, hT1, hT2⟩ := owns_at hO.ot.out (by omega)
  have hot := hO.ot.out
  rw [eT] at hot e4
  have hvl := hO.ot.vlen
  have one : ∀ x ∈ us, x.oneCell' = true := by
    intro x hx
    obtain ⟨j, hj, rfl⟩ := List.mem_iff_getElem.1 hx
    obtain ⟨xa, ma, ya, e, -⟩ := hO.ot.inn j (by omega)
    have : us[j] = us.getD j undef := by simp [List.getD, hj]
    rw [this, e]; rfl
  have f4 := kQ.fz 4
  have hQT : Bq ≠ T := fun e => blk_owns kQ hO.ot.out types_ne.2.2.2.1 (by rw [eT, e]; rfl)
  have hTH : H.heap.size ≤ T := hfr T (by unfold fpP fpT; rw [eT]; simp [rowOf])
  have hTa : ba ≠ T := by have := World.block_lt_of_cell? _ _ hA; simp only at this; omega
  obtain ⟨m, hm⟩ : ∃ m, u.nt = m + 1 := ⟨u.nt - 1, by omega⟩
  have ONE := Lib.hid one
  have hwr : IntKind.i64.wrap ((na : Int) + 1) = (na : Int) + 1 := Go.IntWalk.i64_in _ (by omega)
  have HNT := Lib.hid hnt
  have HO := Lib.hid hO
  have HOT := Lib.hid hot
  have HK := Lib.hid kQ
  have HM := Lib.hid hm
  rw [hm] at e4 t0
  clear hnt hO hot hvl hlen h0 h1 hnd hA one kQ
  have e4m := e4
  rw [← hm] at e4
  go_enter Try.func39, Try.ntmps39
  go_wp2
  refine wp_region_steps 9 (by kernel_rfl) (by kernel_rfl) [fun dz uz wz => uz = .pointer (some ⟨Bq, 0, none⟩), fun dz uz wz => uz = .pointer (some ⟨Bq, 0, none⟩), fun dz uz wz => uz = .pointer (some ⟨Bq, 0, none⟩), fun dz uz wz => uz = .pointer (some ⟨Bq, 4, none⟩), fun dz uz wz => uz = .slice (some ⟨T, 0, none⟩) (m + 1) u.ct, fun dz uz wz => uz = .int .i64 na, fun dz uz wz => uz = .int .i64 na, fun dz uz wz => uz = .int .i64 ((na : Int) + 1), fun dz uz wz => (uz = .slice (some ⟨T, 0, none⟩) m u.ct ∧ wz.ownsRow 0 34 1 (.slice (some ⟨T, 0, none⟩) m u.ct) m (us.take na ++ us.drop (na + 1)))] (St1 8 (Touch [T])) (fun _ _ => none) (Stage 8 [T] W) (Stage.start _ _ _) (st1_size (fun _ _ h => h.size)) (stab1_of ⟨fun _ _ _ _ _ h => h, fun _ _ _ _ _ h => h, fun _ _ _ _ _ h => h, fun _ _ _ _ _ h => h, fun _ _ _ _ _ h => h, fun _ _ _ _ _ h => h, fun _ _ _ _ _ h => h, fun _ _ _ _ _ h => h, fun _ _ _ _ hb h => ⟨h.1, owns_below h.2 hb⟩, trivial⟩ ⟨.inr (fun _ _ _ _ _ h => h), .inr (fun _ _ _ _ _ h => h), .inr (fun _ _ _ _ _ h => h), .inr (fun _ _ _ _ _ h => h), .inr (fun _ _ _ _ _ h => h), .inr (fun _ _ _ _ _ h => h), .inr (fun _ _ _ _ _ h => h), .inr (fun _ _ _ _ _ h => h), .inl rfl, trivial⟩) ?_ ?_
  · simp only [List.take_succ_cons, List.take_zero]
    refine ⟨?_, ?_, ?_, ?_, ?_, ?_, ?_, ?_, ?_, trivial⟩
    · intro ρ w1 L hG hny hfr hd
      have fc : ∀ z, ρ (.const z) = z := fun _ => hfr _ rfl
      have ff : ∀ z, ρ (.func z) = .func (.func z) #[] #[] := fun _ => hfr _ rfl
      have f0 : ρ (.tmp 0) = .pointer (some ⟨Bq, 0, none⟩) := hfr _ rfl
      refine gives_val (u := .pointer (some ⟨Bq, 0, none⟩)) (w' := w1) (by go_simp) ⟨st1_below (by decide) (Below.refl _ _), rfl, (fun _ hk => by cases hk), hG.step (by decide) (Below.refl _ _)⟩
    · intro ρ w1 L hG hny hfr hd
      have fc : ∀ z, ρ (.const z) = z := fun _ => hfr _ rfl
      have ff : ∀ z, ρ (.func z) = .func (.func z) #[] #[] := fun _ => hfr _ rfl
      have f0 : ρ (.tmp 0) = .pointer (some ⟨Bq, 0, none⟩) := hfr _ rfl
      refine gives_val (u := .pointer (some ⟨Bq, 0, none⟩)) (w' := w1) (by go_simp) ⟨st1_below (by decide) (Below.refl _ _), rfl, (fun _ hk => by cases hk), hG.step (by decide) (Below.refl _ _)⟩
    · intro ρ w1 L hG hny hfr hd
      have fc : ∀ z, ρ (.const z) = z := fun _ => hfr _ rfl
      have ff : ∀ z, ρ (.func z) = .func (.func z) #[] #[] := fun _ => hfr _ rfl
      obtain ⟨d0, -⟩ := hd
      have d0 : (ρ (.tmp 11)) = .pointer (some ⟨Bq, 0, none⟩) := d0
      refine gives_val (u := .pointer (some ⟨Bq, 0, none⟩)) (w' := w1) (by go_simp) ⟨st1_below (by decide) (Below.refl _ _), rfl, (fun _ hk => by cases hk), hG.step (by decide) (Below.refl _ _)⟩
    · intro ρ w1 L hG hny hfr hd
      have fc : ∀ z, ρ (.const z) = z := fun _ => hfr _ rfl
      have ff : ∀ z, ρ (.func z) = .func (.func z) #[] #[] := fun _ => hfr _ rfl
      obtain ⟨d0, -⟩ := hd
      have d0 : (ρ (.tmp 12)) = .pointer (some ⟨Bq, 0, none⟩) := d0
      refine gives_val (u := .pointer (some ⟨Bq, 4, none⟩)) (w' := w1) (by go_simp) ⟨st1_below (by decide) (Below.refl _ _), rfl, (fun _ hk => by cases hk), hG.step (by decide) (Below.refl _ _)⟩
    · intro ρ w1 L hG hny hfr hd
      have fc : ∀ z, ρ (.const z) = z := fun _ => hfr _ rfl
      have ff : ∀ z, ρ (.func z) = .func (.func z) #[] #[] := fun _ => hfr _ rfl
      obtain ⟨d0, -⟩ := hd
      have d0 : (ρ (.tmp 13)) = .pointer (some ⟨Bq, 4, none⟩) := d0
      have e4m := cell_touch hG.2 e4m (by simpa using hQT)
      refine gives_val (u := .slice (some ⟨T, 0, none⟩) (m + 1) u.ct) (w' := w1) (by go_simp) ⟨st1_below (by decide) (Below.refl _ _), rfl, (fun _ hk => by cases hk), hG.step (by decide) (Below.refl _ _)⟩
    · intro ρ w1 L hG hny hfr hd
      have fc : ∀ z, ρ (.const z) = z := fun _ => hfr _ rfl
      have ff : ∀ z, ρ (.func z) = .func (.func z) #[] #[] := fun _ => hfr _ rfl
      have f1 : ρ (.tmp 1) = .pointer (some ⟨ba, 0, none⟩) := hfr _ rfl
      have ca := cell_touch hG.2 ca (by simpa using hTa)
      refine gives_val (u := .int .i64 na) (w' := w1) (by go_simp) ⟨st1_below (by decide) (Below.refl _ _), rfl, (fun _ hk => by cases hk), hG.step (by decide) (Below.refl _ _)⟩
    · intro ρ w1 L hG hny hfr hd
      have fc : ∀ z, ρ (.const z) = z := fun _ => hfr _ rfl
      have ff : ∀ z, ρ (.func z) = .func (.func z) #[] #[] := fun _ => hfr _ rfl
      have f1 : ρ (.tmp 1) = .pointer (some ⟨ba, 0, none⟩) := hfr _ rfl
      have ca := cell_touch hG.2 ca (by simpa using hTa)
      refine gives_val (u := .int .i64 na) (w' := w1) (by go_simp) ⟨st1_below (by decide) (Below.refl _ _), rfl, (fun _ hk => by cases hk), hG.step (by decide) (Below.refl _ _)⟩
    · intro ρ w1 L hG hny hfr hd
      have fc : ∀ z, ρ (.const z) = z := fun _ => hfr _ rfl
      have ff : ∀ z, ρ (.func z) = .func (.func z) #[] #[] := fun _ => hfr _ rfl
      obtain ⟨d0, -⟩ := hd
      have d0 : (ρ (.tmp 16)) = .int .i64 na := d0
      refine gives_val (u := .int .i64 ((na : Int) + 1)) (w' := w1) (by go_simp) ⟨st1_below (by decide) (Below.refl _ _), rfl, (fun _ hk => by cases hk), hG.step (by decide) (Below.refl _ _)⟩
    · intro ρ w1 L hG hny hfr hd
      have fc : ∀ z, ρ (.const z) = z := fun _ => hfr _ rfl
      have ff : ∀ z, ρ (.func z) = .func (.func z) #[] #[] := fun _ => hfr _ rfl
      obtain ⟨d0, d1, d2, -⟩ := hd
      have d0 : (ρ (.tmp 14)) = .slice (some ⟨T, 0, none⟩) (m + 1) u.ct := d0
      have d1 : (ρ (.tmp 15)) = .int .i64 na := d1
      have d2 : (ρ (.tmp 17)) = .int .i64 ((na : Int) + 1) := d2
      have hL := hny 8 _ rfl (by kernel_rfl)
      have ho := owns_below HOT.out (hG.1 hL)
      rw [HM.out] at ho
      refine gives_call (by go_simp; exact ⟨⟨rfl, rfl⟩, rfl⟩) ?_
      refine (deleteRows_any T m u.ct na us w1 ho (by omega) ONE.out).mono ?_
      rintro e w2 ⟨rfl, ho2, hg2⟩
      have hT : Touch [T] w1 w2 := Touch.of_grown hg2 (fun q hq => by simp at hq; simp [hq])
      exact ⟨_, rfl, st1_own hT, ⟨rfl, ho2⟩, (fun _ hk => by cases hk), hG.own hT⟩
  intro vs w2 L hG hlen hall hap hbd
  obtain ⟨xv0, vs0, rfl, hl0⟩ := len_cons hlen
  obtain ⟨xv1, vs1, rfl, hl1⟩ := len_cons hl0
  obtain ⟨xv2, vs2, rfl, hl2⟩ := len_cons hl1
  obtain ⟨xv3, vs3, rfl, hl3⟩ := len_cons hl2
  obtain ⟨xv4, vs4, rfl, hl4⟩ := len_cons hl3
  obtain ⟨xv5, vs5, rfl, hl5⟩ := len_cons hl4
  obtain ⟨xv6, vs6, rfl, hl6⟩ := len_cons hl5
  obtain ⟨xv7, vs7, rfl, hl7⟩ := len_cons hl6
  obtain ⟨xv8, vs8, rfl, hl8⟩ := len_cons hl7
  obtain rfl := len_nil hl8
  clear hlen hl0 hl1 hl2 hl3 hl4 hl5 hl6 hl7 hl8
  simp only [List.take_succ_cons, List.take_zero, List.drop_succ_cons, List.drop_zero] at hall ⊢
  obtain ⟨t0', t1', t2', t3', t4', t5', t6', t7', t8', -⟩ := hall
  have hv0 : xv0 = .pointer (some ⟨Bq, 0, none⟩) := t0'
  have hv1 : xv1 = .pointer (some ⟨Bq, 0, none⟩) := t1'
  have hv2 : xv2 = .pointer (some ⟨Bq, 0, none⟩) := t2'
  have hv3 : xv3 = .pointer (some ⟨Bq, 4, none⟩) := t3'
  have hv4 : xv4 = .slice (some ⟨T, 0, none⟩) (m + 1) u.ct := t4'
  have hv5 : xv5 = .int .i64 na := t5'
  have hv6 : xv6 = .int .i64 na := t6'
  have hv7 : xv7 = .int .i64 ((na : Int) + 1) := t7'
  have hv8 : (xv8 = .slice (some ⟨T, 0, none⟩) m u.ct ∧ w2.ownsRow 0 34 1 (.slice (some ⟨T, 0, none⟩) m u.ct) m (us.take na ++ us.drop (na + 1))) := t8'
  clear t0' t1' t2' t3' t4' t5' t6' t7' t8'
  clear hap hbd
  subst hv0 hv1 hv2 hv3 hv4 hv5 hv6 hv7
  simp only [putAll, Act.put, List.setIfInBounds_toArray, List.set_cons_succ, List.set_cons_zero]
  obtain ⟨rfl, hrow⟩ := hv8
  have kQ2 : Blk w2 Bq _ _ := (hG.2.block Bq HK.out.lt (by simpa using hQT)).trans HK.out
  have e4w := kQ2.cell 4 rfl
  have f4w := kQ2.fz 4
  have HKQ := Lib.hid kQ2
  have HROW := Lib.hid hrow
  have HG := Lib.hid hG.2
  clear hG hrow kQ2
  go_wp2
  go_ret
  have hB2 : Touch [T, Bq] W (w2.setCell ⟨Bq, 4, none⟩ (.slice (some ⟨T, 0, none⟩) m u.ct)) := (HG.out.mono (fun q hq => by simp at hq; simp [hq])).set (by simp)
  refine ⟨rfl, hB.trans (hB2.below hB.size (fun q hq => by simp at hq; rcases hq with rfl | rfl <;> omega)), fun p' hp' => ?_⟩
  obtain rfl : p.thr (p.threads.eraseIdx na) = p' := by simpa using hp'
  have hg : W.grownBy w2 (rowOf u.t) := ⟨HG.out.os, HG.out.tape, HG.out.output, HG.out.size, fun q hq hne => HG.out.block q hq (fun hm => hne (by rw [eT]; simp at hm; rw [hm]; rfl))⟩
  have hinn := HO.out.inner_own hg
  have hO2 := ownP_threads HO.out hg HROW.out (ts' := p.threads.eraseIdx na) (by have := HNT.out; have := HM.out; rw [List.length_eraseIdx]; split <;> omega) (fun i hi => by
    have hl : i < m := by have := HNT.out; have := HM.out; rw [List.length_eraseIdx] at hi; split at hi <;> omega
    rw [← List.eraseIdx_eq_take_drop_succ, erase_get undef, erase_get []]
    have := HNT.out
    have := HM.out
    split
    · exact hinn i (by omega)
    · exact hinn (i + 1) (by omega))
  refine ⟨u.thr (some ⟨T, 0, none⟩) m u.ct, HKQ.out.set 4 _, (hO2.head HKQ.out (grown_set _ _ _ _)).rd⟩

theorem cutRes_ok {p : Pg} {t : Int} (hs : SmallP p) (h0 : 0 ≤ t) (h1 : t < p.threads.length) : ∀ p', cutRes p t = some p' → SmallP p' ∧ 0 < p'.threads.length := by
  intro p' h
  unfold cutRes at h
  split at h
  · cases h
  · next hc =>
    obtain rfl : p.thr (p.threads.eraseIdx t.toNat) = p' := by simpa using h
    have hl : (p.threads.eraseIdx t.toNat).length = p.threads.length - 1 := by rw [List.length_eraseIdx, if_pos (by omega)]
    have h2 := hs.lt
    refine ⟨hs.thr (by rw [hl]; omega) (fun i => ?_), by show 0 < (p.threads.eraseIdx t.toNat).length; rw [hl]; omega⟩
    rw [erase_get]
    split
    · exact hs.inn _
    · exact hs.inn _

set_option maxRecDepth 100000 in
set_option maxHeartbeats 4000000 in
theorem implCutThread_any (v : PV) (p : Pg) (a : Int) (w : World) (hr : RdP w v p) (hz : Small v p) :
    Calls Try.prog 11 #[.agg #[.slice v.s v.ns v.cs, .slice v.g v.ng v.cg, .slice v.b v.nb v.cb, .slice v.r v.nr v.cr, .slice v.t v.nt v.ct], .int .i64 a] w fun e w' => ∃ (u : PV) (us : List Value), e = .returned (.tuple #[.agg #[.slice u.s u.ns u.cs, .slice u.g u.ng u.cg, .slice u.b u.nb u.cb, .slice u.r u.nr u.cr, .slice u.t u.nt u.ct], .bool (cutThread p a).isSome]) ∧ OwnP w' u us ((cutThread p a).getD noPg).cells ∧ (fpP u us).Nodup ∧ (∀ k ∈ fpP u us, w.heap.size ≤ k) ∧ Below w.heap.size w w' := by
  have hsd := hz.data hr
  have HSD := Lib.hid hsd
  have hmf : ∀ (fn : Fn) (first cap : Array Value) (w : World), (Instr.makeFunc fn first cap).run Try.prog w = .ok (.func fn first cap) w := fun _ _ _ _ => rfl
  obtain ⟨W0, hW0⟩ : ∃ W0 : World, W0 = (((w.alloc (.cells #[.slice v.s v.ns v.cs, .slice v.g v.ng v.cg, .slice v.b v.nb v.cb, .slice v.r v.nr v.cr, .slice v.t v.nt v.ct] 26)).alloc (.cells #[.int .i64 a] 3)).alloc (.cells #[.slice none 0 0, .slice none 0 0, .slice none 0 0, .slice none 0 0, .slice none 0 0] 26)) := ⟨_, rfl⟩
  have b0 : Below w.heap.size w (((w.alloc (.cells #[.slice v.s v.ns v.cs, .slice v.g v.ng v.cg, .slice v.b v.nb v.cb, .slice v.r v.nr v.cr, .slice v.t v.nt v.ct] 26)).alloc (.cells #[.int .i64 a] 3)).alloc (.cells #[.slice none 0 0, .slice none 0 0, .slice none 0 0, .slice none 0 0, .slice none 0 0] 26)) := (((Below.refl _ _).alloc (Nat.le_refl _) _).alloc (by simp) _).alloc (by simp; omega) _
  have k0 : Blk (((w.alloc (.cells #[.slice v.s v.ns v.cs, .slice v.g v.ng v.cg, .slice v.b v.nb v.cb, .slice v.r v.nr v.cr, .slice v.t v.nt v.ct] 26)).alloc (.cells #[.int .i64 a] 3)).alloc (.cells #[.slice none 0 0, .slice none 0 0, .slice none 0 0, .slice none 0 0, .slice none 0 0] 26)) w.heap.size #[.slice v.s v.ns v.cs, .slice v.g v.ng v.cg, .slice v.b v.nb v.cb, .slice v.r v.nr v.cr, .slice v.t v.nt v.ct] 26 := ((Blk.new _ _ _).alloc _).alloc _
  have k1 : Blk (((w.alloc (.cells #[.slice v.s v.ns v.cs, .slice v.g v.ng v.cg, .slice v.b v.nb v.cb, .slice v.r v.nr v.cr, .slice v.t v.nt v.ct] 26)).alloc (.cells #[.int .i64 a] 3)).alloc (.cells #[.slice none 0 0, .slice none 0 0, .slice none 0 0, .slice none 0 0, .slice none 0 0] 26)) (w.heap.size + 1) #[.int .i64 a] 3 := by simpa using (Blk.new (w.alloc (.cells #[.slice v.s v.ns v.cs, .slice v.g v.ng v.cg, .slice v.b v.nb v.cb, .slice v.r v.nr v.cr, .slice v.t v.nt v.ct] 26)) #[.int .i64 a] 3).alloc (.cells #[.slice none 0 0, .slice none 0 0, .slice none 0 0, .slice none 0 0, .slice none 0 0] 26)
  have kR : Blk (((w.alloc (.cells #[.slice v.s v.ns v.cs, .slice v.g v.ng v.cg, .slice v.b v.nb v.cb, .slice v.r v.nr v.cr, .slice v.t v.nt v.ct] 26)).alloc (.cells #[.int .i64 a] 3)).alloc (.cells #[.slice none 0 0, .slice none 0 0, .slice none 0 0, .slice none 0 0, .slice none 0 0] 26)) (w.heap.size + 1 + 1) #[.slice none 0 0, .slice none 0 0, .slice none 0 0, .slice none 0 0, .slice none 0 0] 26 := by simpa using Blk.new ((w.alloc (.cells #[.slice v.s v.ns v.cs, .slice v.g v.ng v.cg, .slice v.b v.nb v.cb, .slice v.r v.nr v.cr, .slice v.t v.nt v.ct] 26)).alloc (.cells #[.int .i64 a] 3)) #[.slice none 0 0, .slice none 0 0, .slice none 0 0, .slice none 0 0, .slice none 0 0] 26
  have HW0 := Lib.hid hW0
  rw [← hW0] at b0 k0 k1 kR
  clear hW0
  have q0 := k0.cell 0 rfl
  have q1 := k0.cell 1 rfl
  have q2 := k0.cell 2 rfl
  have q3 := k0.cell 3 rfl
  have q4 := k0.cell 4 rfl
  have ca := k1.cell 0 rfl
  have hW := kR.lt
  have lt := Lib.hid hr.lt
  clear hsd
  go_enter Try.func11, Try.ntmps11
  go_wp2_with fail
  rw [← HW0.out]
  refine (change_any 39 #[.pointer (some ⟨w.heap.size + 1, 0, none⟩)] v p a (cutRes p a) _ (enters_of Try.func39 (by kernel_rfl) rfl) (hr.below b0) hz
    (fun hv h0 h1 H hH => cutFn_any p a H _ (keepc hH ca) h0 h1 HSD.out.lt) (fun hv h0 h1 p' hp' => cutRes_ok HSD.out h0 h1 p' hp')).mono ?_
  rintro e w1 ⟨u, us, rfl, ou, hnd, hfr, hb⟩
  have kR1 := kR.below hb
  have BE := b0.trans (hb.mono b0.size)
  have HO := Lib.hid ou
  have HFR := Lib.hid hfr
  have y0 := kR1.cell 0 rfl
  have x0 := kR1.fz 0
  have y1 := kR1.cell 1 rfl
  have x1 := kR1.fz 1
  have y2 := kR1.cell 2 rfl
  have x2 := kR1.fz 2
  have y3 := kR1.cell 3 rfl
  have x3 := kR1.fz 3
  have y4 := kR1.cell 4 rfl
  have x4 := kR1.fz 4
  clear ou hfr q0 q1 q2 q3 q4 ca k0 k1 kR kR1
  go_wp2
  refine bodyPost_ret (v := .tuple #[.agg #[.slice u.s u.ns u.cs, .slice u.g u.ng u.cg, .slice u.b u.nb u.cb, .slice u.r u.nr u.cr, .slice u.t u.nt u.ct], .bool (cutThread p a).isSome]) (by simp [results, Try.results11, go_sem, y0, y1, y2, y3, y4, cutThread]) rfl ⟨u, us, rfl, ?_, hnd, fun q hq => Nat.le_trans b0.size (HFR.out q hq), ?_⟩
  · refine HO.out.touch (S := [w.heap.size + 1 + 1]) ?_ (fun q hq hm => by have := HFR.out q hq; simp at hm; omega)
    exact Touch.set (Touch.set (Touch.set (Touch.set (Touch.set (Touch.refl _ _) (by simp)) (by simp)) (by simp)) (by simp)) (by simp)
  · exact ((((BE.setCell (by simp; omega) _).setCell (by simp; omega) _).setCell (by simp; omega) _).setCell (by simp; omega) _).setCell (by simp; omega) _

end Go.Proofs.Ytnobkdkfhgjeeab
