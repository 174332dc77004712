/- slices.Delete, of one element. -/
import Derived.Test.YtnobkdkfhgjeeabLib3
import Derived.Test.YtnobkdkfhgjeeabRegion2
import Derived.Test.YtnobkdkfhgjeeabPgmTo
import Derived.Lib.SliceRun
import Derived.ArgAppend
namespace Go.Proofs.Ytnobkdkfhgjeeab
open Go.RowKit

/-- What a row of cells is where some are written over. -/
def over (o : Nat) (us cs : List Value) : List Value := cs.take o ++ us ++ cs.drop (o + us.length)
theorem over_cons (o : Nat) (u : Value) (us cs : List Value) (h : o + us.length + 1 ≤ cs.length) : over (o + 1) us (cs.set o u) = over o (u :: us) cs := by
  unfold over
  have e1 : (cs.set o u).take (o + 1) = cs.take o ++ [u] := by
    rw [List.take_add_one, List.take_set_of_le (Nat.le_refl o)]
    simp [show o < cs.length by omega]
  have e2 : (cs.set o u).drop (o + 1 + us.length) = cs.drop (o + (us.length + 1)) := by
    rw [List.drop_set_of_lt (by omega)]
    congr 1; omega
  rw [e1, e2]
  simp
theorem owns_setCells {B : Nat} {e : TypeId} {sz n c g : Nat} : ∀ (us : List Value) (o : Nat) (w : World) (cs : List Value), w.ownsRow B e sz (.slice (some ⟨g, 0, none⟩) n c) n cs → o + us.length ≤ cs.length →
    (w.setCells g o us).ownsRow B e sz (.slice (some ⟨g, 0, none⟩) n c) n (over o us cs) ∧ w.grownBy (w.setCells g o us) (some g)
  | [], o, w, cs, h, _ => by
    have : over o [] cs = cs := by simp [over]
    rw [this]
    exact ⟨h, World.grownBy.refl _ _⟩
  | u :: us, o, w, cs, h, hl => by
    simp only [List.length_cons] at hl
    have h1 := owns_store h o u rfl
    have h2 := owns_setCells us (o + 1) (w.setCell ⟨g, o, none⟩ u) (cs.set o u) h1.1 (by simp; omega)
    rw [over_cons o u us cs (by omega)] at h2
    exact ⟨h2.1, grown_trans h1.2 h2.2⟩

/-- An owned row, with its room. -/
theorem owns_full {w : World} {B : Nat} {e : TypeId} {sz n c g : Nat} {cs : List Value} (h : w.ownsRow B e sz (.slice (some ⟨g, 0, none⟩) n c) n cs) :
    ∃ cur : List Value, w.ownsRow B e sz (.slice (some ⟨g, 0, none⟩) c c) c cur ∧ cur.take (n * sz) = cs ∧ n ≤ c ∧ c ≤ maxLen ∧ cur.length = c * sz := by
  obtain ⟨hl, ⟨h', _⟩ | ⟨g', cap', cur, h', hb, hg, h1, h2, h3, h4⟩⟩ := h
  · cases h'
  · cases h'
    refine ⟨cur.toList, ⟨by simpa using h3, .inr ⟨g, c, cur, rfl, hb, hg, Nat.le_refl _, h2, h3, ?_⟩⟩, h4, h1, h2, by simpa using h3⟩
    rw [List.take_of_length_le (by simp; omega)]
theorem owns_cut {w : World} {B : Nat} {e : TypeId} {sz m c g : Nat} {cur : List Value} (h : w.ownsRow B e sz (.slice (some ⟨g, 0, none⟩) c c) c cur) (hm : m ≤ c) :
    w.ownsRow B e sz (.slice (some ⟨g, 0, none⟩) m c) m (cur.take (m * sz)) := by
  obtain ⟨hl, ⟨h', _⟩ | ⟨g', cap', cc, h', hb, hg, h1, h2, h3, h4⟩⟩ := h
  · cases h'
  · cases h'
    have hmc : m * sz ≤ c * sz := Nat.mul_le_mul_right sz hm
    have e1 : cc.toList = cur := by rw [← h4, List.take_of_length_le (by simp; omega)]
    refine ⟨by rw [List.length_take]; omega, .inr ⟨g, c, cc, rfl, hb, hg, hm, h2, h3, by rw [e1]⟩⟩

theorem delete_cells (cur cs : List Value) (zs : List Value) (i n sz : Nat) (hi : i < n) (hc : cur.take (n * sz) = cs) (hn : n * sz ≤ cur.length) (hz : zs.length = sz) :
    (over ((n - 1) * sz) zs (over (i * sz) (cs.drop ((i + 1) * sz)) cur)).take ((n - 1) * sz) = cs.take (i * sz) ++ cs.drop ((i + 1) * sz) := by
  have hl : cs.length = n * sz := by rw [← hc, List.length_take]; omega
  have k1 : (i + 1) * sz = i * sz + sz := by rw [Nat.add_mul, Nat.one_mul]
  have k2 : (n - 1) * sz + sz = n * sz := by rw [← Nat.succ_mul]; congr 1; omega
  have k3 : (i + 1) * sz ≤ n * sz := Nat.mul_le_mul_right sz hi
  have e : cs.take (i * sz) = cur.take (i * sz) := by rw [← hc, List.take_take, Nat.min_eq_left (by omega)]
  unfold over
  rw [List.append_assoc, List.take_append_of_le_length (by simp; omega), List.take_take, Nat.min_self, List.take_append_of_le_length (by simp; omega), List.take_of_length_le (by simp; omega), e]

theorem run_clear_one {P : Program} (w : World) (t e ty : TypeId) (z : Value) (ht : P.underlying t = some (.slice e)) (hv : ∀ w, (zeroValue e).run P w = .ok z w) (h1 : ∀ u ∈ z.cells.toList, u.oneCell' = true) (b o c : Nat)
    (hc : ∀ j, j < z.cells.size → (w.cell? ⟨b, o + j, none⟩).isSome = true) (hf : ∀ j, j < z.cells.size → w.frozen? ⟨b, o + j, none⟩ = false) :
    (Builtin.clear_ #[t] ty #[.slice (some ⟨b, o, none⟩) 1 c]).run P w = .ok (.tuple #[]) (w.setCells b o z.cells.toList) := by
  have hzc : (Builtin.zeroCells z.cells 1).toList = z.cells.toList := by
    apply List.ext_getElem
    · simp [Builtin.zeroCells]
    · intro i h1 h2
      simp only [Array.length_toList] at h2
      simp [Builtin.zeroCells, Nat.mod_eq_of_lt h2, h2]
  have hst := run_storeCells_cells (P := P) b o z.cells.toList 0 w (by simpa using hc) (by simpa using hf) h1
  simp only [Nat.add_zero] at hst
  simp [Builtin.clear_, run_underlying ht, hv, hzc, hst]

/-- 'append' whose run is known, at the operation and as a step. -/
theorem wp_append_at {P : Program} {wr w1 : World} {o : Oper} {ac : Act} {K : Act → World → Prop} {Q : Exit → Act → World → Prop} (s x : Operand) (t : TypeId)
    (ho : o.op = .call { callee := .builtin .append, args := #[s, x], argTypes := #[t, t] }) {vs vx r : Value} (hs : ac.eval s = vs) (hx : ac.eval x = vx)
    (hr : ∀ ty, (Builtin.append_ #[t, t] ty #[vs, vx]).run P wr = .ok r w1) (h : K (ac.put o.dst r) w1) : o.wp P ac wr K Q := by
  unfold Oper.wp execOp
  simp only [ho, resolve, invoke, builtin, Sem.run_bind, Sem.run_pure, Result.andThen_ok, List.map_toArray, List.map_cons, List.map_nil, hs, hx, hr]
  exact h
theorem wpList_append_at {P : Program} {wr w1 : World} {ops : Array Oper} {rest : List Oper} {o : Oper} {ac : Act} {Q : Exit → Act → World → Prop} (hgd : o.guard = none) (s x : Operand) (t : TypeId)
    (ho : o.op = .call { callee := .builtin .append, args := #[s, x], argTypes := #[t, t] }) {vs vx r : Value} (hs : ac.eval s = vs) (hx : ac.eval x = vx)
    (hr : ∀ ty, (Builtin.append_ #[t, t] ty #[vs, vx]).run P wr = .ok r w1) (h : wpList P ops Q rest (ac.put o.dst r) w1) : wpList P ops Q (o :: rest) ac wr := by
  have hw : Region.wanted o (yielded ops ac.tmps) = true := by simp [Region.wanted, hgd]
  unfold wpList
  rw [if_pos hw]
  exact .inl (wp_append_at s x t ho hs hx hr h)
/-- 'clear' whose run is known. -/
theorem wp_clear_at {P : Program} {wr w1 : World} {o : Oper} {ac : Act} {K : Act → World → Prop} {Q : Exit → Act → World → Prop} (x : Operand) (t : TypeId)
    (ho : o.op = .call { callee := .builtin .clear, args := #[x], argTypes := #[t] }) {vx r : Value} (hx : ac.eval x = vx)
    (hr : ∀ ty, (Builtin.clear_ #[t] ty #[vx]).run P wr = .ok r w1) (h : K (ac.put o.dst r) w1) : o.wp P ac wr K Q := by
  unfold Oper.wp execOp
  simp only [ho, resolve, invoke, builtin, Sem.run_bind, Sem.run_pure, Result.andThen_ok, List.map_toArray, List.map_cons, List.map_nil, hx, hr]
  exact h
theorem wpList_clear_at {P : Program} {wr w1 : World} {ops : Array Oper} {rest : List Oper} {o : Oper} {ac : Act} {Q : Exit → Act → World → Prop} (hgd : o.guard = none) (x : Operand) (t : TypeId)
    (ho : o.op = .call { callee := .builtin .clear, args := #[x], argTypes := #[t] }) {vx r : Value} (hx : ac.eval x = vx)
    (hr : ∀ ty, (Builtin.clear_ #[t] ty #[vx]).run P wr = .ok r w1) (h : wpList P ops Q rest (ac.put o.dst r) w1) : wpList P ops Q (o :: rest) ac wr := by
  have hw : Region.wanted o (yielded ops ac.tmps) = true := by simp [Region.wanted, hgd]
  unfold wpList
  rw [if_pos hw]
  exact .inl (wp_clear_at x t ho hx hr h)

set_option maxRecDepth 100000 in
set_option maxHeartbeats 4000000 in
theorem deleteOps_any (g m c i : Nat) (cs : List Value) (w : World) (ho : w.ownsRow 0 44 3 (.slice (some ⟨g, 0, none⟩) (m + 1) c) (m + 1) cs) (hi : i ≤ m) (h1 : ∀ u ∈ cs, u.oneCell' = true) :
    Calls Try.prog 67 #[.slice (some ⟨g, 0, none⟩) (m + 1) c, .int .i64 i, .int .i64 ((i : Int) + 1)] w fun e w' => e = .returned (.slice (some ⟨g, 0, none⟩) m c) ∧ w'.ownsRow 0 44 3 (.slice (some ⟨g, 0, none⟩) m c) m (cs.take (i * 3) ++ cs.drop ((i + 1) * 3)) ∧ w.grownBy w' (some g) := by
  obtain ⟨cur, hf, htk, hnc, hcm, hcl⟩ := owns_full ho
  have hm : c ≤ 9223372036854775807 := hcm
  have hlc : cs.length = (m + 1) * 3 := by have := ho.1; omega
  have i0 : (0 : Int) ≤ (i : Int) := by omega
  have i1 : (i : Int) ≤ (i : Int) + 1 := by omega
  have i2 : (i : Int) + 1 ≤ (m : Int) + 1 := by omega
  have i3 : (i : Int) + 1 ≤ (c : Int) := by omega
  have i4 : (m : Int) + 1 ≤ (c : Int) := by omega
  have i5 : (i : Int) ≤ (c : Int) := by omega
  have i6 : (0 : Int) ≤ (i : Int) + 1 := by omega
  have i7 : ((i : Int) == (i : Int) + 1) = false := by simp; omega
  have i8 : (0 : Int) ≤ (m : Int) := by omega
  have i9 : (m : Int) ≤ (m : Int) + 1 := by omega
  have n0 : ¬ c = m := by omega
  have n1 : ¬ m + 1 = i := by omega
  have HL := Lib.hid hlc
  have HC := Lib.hid hcl
  have HT := Lib.hid htk
  have HO := Lib.hid hf
  have H1 := Lib.hid h1
  have HM := Lib.hid hm
  obtain ⟨A, hA⟩ : ∃ A : Addr, (if c = i + 1 then (⟨g, 0, none⟩ : Addr) else ⟨g, (i + 1) * 3, none⟩) = A := ⟨_, rfl⟩
  clear hlc hcl htk hf h1 ho hcm hm
  go_enter Try.func67, Try.ntmps67
  go_wp2
  refine wp_region_fresh 6 (by kernel_rfl) (by kernel_rfl) [fun dz uz wz => uz = .slice (some ⟨g, 0, none⟩) (m + 1) c, fun dz uz wz => uz = .int .i64 i, fun dz uz wz => uz = .slice (some ⟨g, 0, none⟩) i c, fun dz uz wz => uz = .slice (some ⟨g, 0, none⟩) (m + 1) c, fun dz uz wz => uz = .int .i64 ((i : Int) + 1), fun dz uz wz => uz = .slice (some A) (m - i) (c - (i + 1))] (fun i => match i with | _ => fun _ => none) (fun w' => Below w.heap.size w w') (Below.refl _ _).drew (stab_of ⟨fun _ _ _ _ _ h => h, fun _ _ _ _ _ h => h, fun _ _ _ _ _ h => h, fun _ _ _ _ _ h => h, fun _ _ _ _ _ h => h, fun _ _ _ _ _ h => h, trivial⟩) ?_ ?_
  · simp only [List.take_succ_cons, List.take_zero]
    refine ⟨?_, ?_, ?_, ?_, ?_, ?_, trivial⟩
    · intro ρ w1 hG hfr hd
      have fc : ∀ z, ρ (.const z) = z := fun _ => hfr _ rfl
      have ff : ∀ z, ρ (.func z) = .func (.func z) #[] #[] := fun _ => hfr _ rfl
      have f0 : ρ (.tmp 0) = .slice (some ⟨g, 0, none⟩) (m + 1) c := hfr _ rfl
      refine gives_val (u := .slice (some ⟨g, 0, none⟩) (m + 1) c) (w' := w1) (by go_simp) ⟨Below.refl _ _, rfl, (fun _ hk => by cases hk), hG⟩
    · intro ρ w1 hG hfr hd
      have fc : ∀ z, ρ (.const z) = z := fun _ => hfr _ rfl
      have ff : ∀ z, ρ (.func z) = .func (.func z) #[] #[] := fun _ => hfr _ rfl
      have f1 : ρ (.tmp 1) = .int .i64 i := hfr _ rfl
      refine gives_val (u := .int .i64 i) (w' := w1) (by go_simp) ⟨Below.refl _ _, rfl, (fun _ hk => by cases hk), hG⟩
    · intro ρ w1 hG hfr hd
      have fc : ∀ z, ρ (.const z) = z := fun _ => hfr _ rfl
      have ff : ∀ z, ρ (.func z) = .func (.func z) #[] #[] := fun _ => hfr _ rfl
      obtain ⟨d0, d1, -⟩ := hd
      have d0 : (ρ (.tmp 20)) = .slice (some ⟨g, 0, none⟩) (m + 1) c := d0
      have d1 : (ρ (.tmp 21)) = .int .i64 i := d1
      refine gives_val (u := .slice (some ⟨g, 0, none⟩) i c) (w' := w1) (by go_simp) ⟨Below.refl _ _, rfl, (fun _ hk => by cases hk), hG⟩
    · intro ρ w1 hG hfr hd
      have fc : ∀ z, ρ (.const z) = z := fun _ => hfr _ rfl
      have ff : ∀ z, ρ (.func z) = .func (.func z) #[] #[] := fun _ => hfr _ rfl
      have f0 : ρ (.tmp 0) = .slice (some ⟨g, 0, none⟩) (m + 1) c := hfr _ rfl
      refine gives_val (u := .slice (some ⟨g, 0, none⟩) (m + 1) c) (w' := w1) (by go_simp) ⟨Below.refl _ _, rfl, (fun _ hk => by cases hk), hG⟩
    · intro ρ w1 hG hfr hd
      have fc : ∀ z, ρ (.const z) = z := fun _ => hfr _ rfl
      have ff : ∀ z, ρ (.func z) = .func (.func z) #[] #[] := fun _ => hfr _ rfl
      have f2 : ρ (.tmp 2) = .int .i64 ((i : Int) + 1) := hfr _ rfl
      refine gives_val (u := .int .i64 ((i : Int) + 1)) (w' := w1) (by go_simp) ⟨Below.refl _ _, rfl, (fun _ hk => by cases hk), hG⟩
    · intro ρ w1 hG hfr hd
      have fc : ∀ z, ρ (.const z) = z := fun _ => hfr _ rfl
      have ff : ∀ z, ρ (.func z) = .func (.func z) #[] #[] := fun _ => hfr _ rfl
      obtain ⟨d0, d1, -⟩ := hd
      have d0 : (ρ (.tmp 23)) = .slice (some ⟨g, 0, none⟩) (m + 1) c := d0
      have d1 : (ρ (.tmp 24)) = .int .i64 ((i : Int) + 1) := d1
      refine gives_val (u := .slice (some A) (m - i) (c - (i + 1))) (w' := w1) (by go_simp; rw [← hA]; split <;> rfl) ⟨Below.refl _ _, rfl, (fun _ hk => by cases hk), hG⟩
  intro vs w2 hG hlen hall hap hbd
  obtain ⟨xv0, vs0, rfl, hl0⟩ := len_cons hlen
  obtain ⟨xv1, vs1, rfl, hl1⟩ := len_cons hl0
  obtain ⟨xv2, vs2, rfl, hl2⟩ := len_cons hl1
  obtain ⟨xv3, vs3, rfl, hl3⟩ := len_cons hl2
  obtain ⟨xv4, vs4, rfl, hl4⟩ := len_cons hl3
  obtain ⟨xv5, vs5, rfl, hl5⟩ := len_cons hl4
  obtain rfl := len_nil hl5
  clear hlen hl0 hl1 hl2 hl3 hl4 hl5
  simp only [List.take_succ_cons, List.take_zero, List.drop_succ_cons, List.drop_zero] at hall ⊢
  obtain ⟨t0', t1', t2', t3', t4', t5', -⟩ := hall
  have hv0 : xv0 = .slice (some ⟨g, 0, none⟩) (m + 1) c := t0'
  have hv1 : xv1 = .int .i64 i := t1'
  have hv2 : xv2 = .slice (some ⟨g, 0, none⟩) i c := t2'
  have hv3 : xv3 = .slice (some ⟨g, 0, none⟩) (m + 1) c := t3'
  have hv4 : xv4 = .int .i64 ((i : Int) + 1) := t4'
  have hv5 : xv5 = .slice (some A) (m - i) (c - (i + 1)) := t5'
  clear t0' t1' t2' t3' t4' t5'
  clear hap hbd
  subst hv0 hv1 hv2 hv3 hv4 hv5
  simp only [putAll, Act.put, List.setIfInBounds_toArray, List.set_cons_succ, List.set_cons_zero]
  have hO2 := owns_below HO.out hG
  have h1 := H1.out
  have hcl := HC.out
  have htk := HT.out
  have hlc := HL.out
  obtain ⟨news, hnews⟩ : ∃ news, news = cs.drop ((i + 1) * 3) := ⟨_, rfl⟩
  have hln : news.length = (m - i) * 3 := by rw [hnews, List.length_drop]; omega
  have h1n : ∀ u ∈ news, u.oneCell' = true := fun u hu => h1 u (List.mem_of_mem_drop (by rw [← hnews]; exact hu))
  have h1n' := Lib.hid h1n
  have hcell : ∀ j u, news[j]? = some u → w2.cell? (A.add j) = some u := by
    intro j u hj
    have hjl : j < news.length := (List.getElem?_eq_some_iff.1 hj).1
    have hne : ¬ c = i + 1 := by omega
    rw [← hA, if_neg hne, Addr.add_lit, hO2.cellAt _ (by omega)]
    rw [hnews, List.getElem?_drop, ← htk, List.getElem?_take_of_lt (by omega)] at hj
    exact hj
  obtain ⟨ii, hii, hz0, hz1, hz2⟩ := info_parts info_op
  obtain ⟨W1, hW1⟩ : ∃ W1, W1 = w2.setCells g (i * 3) news := ⟨_, rfl⟩
  have hsp : ∀ j, j < news.length → (w2.cell? ⟨g, 0 + i * ii.size + j, none⟩).isSome = true := by
    intro j hj
    rw [hz1, hO2.cellAt _ (by omega), List.getElem?_eq_getElem (by omega)]
    rfl
  have hap : ∀ ty, (Builtin.append_ #[34, 34] ty #[.slice (some ⟨g, 0, none⟩) i c, .slice (some A) (m - i) (c - (i + 1))]).run Try.prog w2 = .ok (.slice (some ⟨g, 0, none⟩) m c) W1 := by
    intro ty
    have h := run_append_room_cells (P := Try.prog) (w := w2) 34 ty 44 ii Try.underlying34 hii g 0 i c A (m - i) (c - (i + 1)) news (by rw [hz1]; omega) hcell h1n (by omega) hsp (fun j _ => hO2.frozenAt _)
    rw [show i + (m - i) = m by omega, hz1, Nat.zero_add, ← hW1] at h
    exact h
  have R1 := owns_setCells news (i * 3) w2 cur hO2 (by omega)
  rw [← hW1] at R1
  have hco : (over (i * 3) news cur).length = c * 3 := by have := R1.1.1; omega
  have hclr : ∀ ty, (Builtin.clear_ #[34] ty #[.slice (some ⟨g, m * 3, none⟩) 1 (c - m)]).run Try.prog W1 = .ok (.tuple #[]) (W1.setCells g (m * 3) (Value.cells (.agg #[.int .i64 0, .int .i64 0, .int .i64 0])).toList) := fun ty =>
    run_clear_one W1 34 44 ty (.agg #[.int .i64 0, .int .i64 0, .int .i64 0]) Try.underlying34 (fun _ => by kernel_rfl) (by decide) g (m * 3) (c - m) (fun j hj => by
      have hj' : j < 3 := hj
      rw [R1.1.cellAt _ (by omega), List.getElem?_eq_getElem (by omega)]
      rfl) (fun j _ => R1.1.frozenAt _)
  have R2 := owns_setCells (Value.cells (.agg #[.int .i64 0, .int .i64 0, .int .i64 0])).toList (m * 3) W1 _ R1.1 (by rw [hco]; show m * 3 + 3 ≤ c * 3; omega)
  have R3 := owns_cut R2.1 (show m ≤ c by omega)
  have hdc := delete_cells cur cs (Value.cells (.agg #[.int .i64 0, .int .i64 0, .int .i64 0])).toList i (m + 1) 3 (by omega) htk (by omega) rfl
  simp only [Nat.add_sub_cancel] at hdc
  rw [← hnews] at hdc
  rw [hdc] at R3
  have HG := Lib.hid (grown_trans R1.2 R2.2)
  have HGW := Lib.hid hG
  have HR := Lib.hid R3
  have HN := Lib.hid hnews
  clear R1 R2 R3 hdc hsp hcell hW1 hO2 h1 hcl htk hlc hln h1n hco hG hnews
  go_wp2_with (at_builtin; first | refine wpList_append_at rfl (.tmp 22) (.tmp 25) 34 rfl rfl rfl hap ?_ | refine wpList_clear_at rfl (.tmp 31) 34 rfl rfl hclr ?_)
  go_ret
  refine ⟨rfl, by rw [← HN.out]; exact HR.out, ?_⟩
  exact grown_trans ⟨HGW.out.os, HGW.out.tape, HGW.out.output, HGW.out.size, fun k hk _ => HGW.out.block k hk⟩ HG.out

set_option maxRecDepth 100000 in
set_option maxHeartbeats 4000000 in
theorem deleteRows_any (g m c i : Nat) (cs : List Value) (w : World) (ho : w.ownsRow 0 34 1 (.slice (some ⟨g, 0, none⟩) (m + 1) c) (m + 1) cs) (hi : i ≤ m) (h1 : ∀ u ∈ cs, u.oneCell' = true) :
    Calls Try.prog 40 #[.slice (some ⟨g, 0, none⟩) (m + 1) c, .int .i64 i, .int .i64 ((i : Int) + 1)] w fun e w' => e = .returned (.slice (some ⟨g, 0, none⟩) m c) ∧ w'.ownsRow 0 34 1 (.slice (some ⟨g, 0, none⟩) m c) m (cs.take (i) ++ cs.drop ((i + 1))) ∧ w.grownBy w' (some g) := by
  obtain ⟨cur, hf, htk, hnc, hcm, hcl⟩ := owns_full ho
  have hm : c ≤ 9223372036854775807 := hcm
  have hlc : cs.length = (m + 1) := by have := ho.1; omega
  have i0 : (0 : Int) ≤ (i : Int) := by omega
  have i1 : (i : Int) ≤ (i : Int) + 1 := by omega
  have i2 : (i : Int) + 1 ≤ (m : Int) + 1 := by omega
  have i3 : (i : Int) + 1 ≤ (c : Int) := by omega
  have i4 : (m : Int) + 1 ≤ (c : Int) := by omega
  have i5 : (i : Int) ≤ (c : Int) := by omega
  have i6 : (0 : Int) ≤ (i : Int) + 1 := by omega
  have i7 : ((i : Int) == (i : Int) + 1) = false := by simp; omega
  have i8 : (0 : Int) ≤ (m : Int) := by omega
  have i9 : (m : Int) ≤ (m : Int) + 1 := by omega
  have n0 : ¬ c = m := by omega
  have n1 : ¬ m + 1 = i := by omega
  have HL := Lib.hid hlc
  have HC := Lib.hid hcl
  have HT := Lib.hid htk
  have HO := Lib.hid hf
  have H1 := Lib.hid h1
  have HM := Lib.hid hm
  obtain ⟨A, hA⟩ : ∃ A : Addr, (if c = i + 1 then (⟨g, 0, none⟩ : Addr) else ⟨g, (i + 1), none⟩) = A := ⟨_, rfl⟩
  clear hlc hcl htk hf h1 ho hcm hm
  go_enter Try.func40, Try.ntmps40
  go_wp2
  refine wp_region_fresh 6 (by kernel_rfl) (by kernel_rfl) [fun dz uz wz => uz = .slice (some ⟨g, 0, none⟩) (m + 1) c, fun dz uz wz => uz = .int .i64 i, fun dz uz wz => uz = .slice (some ⟨g, 0, none⟩) i c, fun dz uz wz => uz = .slice (some ⟨g, 0, none⟩) (m + 1) c, fun dz uz wz => uz = .int .i64 ((i : Int) + 1), fun dz uz wz => uz = .slice (some A) (m - i) (c - (i + 1))] (fun i => match i with | _ => fun _ => none) (fun w' => Below w.heap.size w w') (Below.refl _ _).drew (stab_of ⟨fun _ _ _ _ _ h => h, fun _ _ _ _ _ h => h, fun _ _ _ _ _ h => h, fun _ _ _ _ _ h => h, fun _ _ _ _ _ h => h, fun _ _ _ _ _ h => h, trivial⟩) ?_ ?_
  · simp only [List.take_succ_cons, List.take_zero]
    refine ⟨?_, ?_, ?_, ?_, ?_, ?_, trivial⟩
    · intro ρ w1 hG hfr hd
      have fc : ∀ z, ρ (.const z) = z := fun _ => hfr _ rfl
      have ff : ∀ z, ρ (.func z) = .func (.func z) #[] #[] := fun _ => hfr _ rfl
      have f0 : ρ (.tmp 0) = .slice (some ⟨g, 0, none⟩) (m + 1) c := hfr _ rfl
      refine gives_val (u := .slice (some ⟨g, 0, none⟩) (m + 1) c) (w' := w1) (by go_simp) ⟨Below.refl _ _, rfl, (fun _ hk => by cases hk), hG⟩
    · intro ρ w1 hG hfr hd
      have fc : ∀ z, ρ (.const z) = z := fun _ => hfr _ rfl
      have ff : ∀ z, ρ (.func z) = .func (.func z) #[] #[] := fun _ => hfr _ rfl
      have f1 : ρ (.tmp 1) = .int .i64 i := hfr _ rfl
      refine gives_val (u := .int .i64 i) (w' := w1) (by go_simp) ⟨Below.refl _ _, rfl, (fun _ hk => by cases hk), hG⟩
    · intro ρ w1 hG hfr hd
      have fc : ∀ z, ρ (.const z) = z := fun _ => hfr _ rfl
      have ff : ∀ z, ρ (.func z) = .func (.func z) #[] #[] := fun _ => hfr _ rfl
      obtain ⟨d0, d1, -⟩ := hd
      have d0 : (ρ (.tmp 20)) = .slice (some ⟨g, 0, none⟩) (m + 1) c := d0
      have d1 : (ρ (.tmp 21)) = .int .i64 i := d1
      refine gives_val (u := .slice (some ⟨g, 0, none⟩) i c) (w' := w1) (by go_simp) ⟨Below.refl _ _, rfl, (fun _ hk => by cases hk), hG⟩
    · intro ρ w1 hG hfr hd
      have fc : ∀ z, ρ (.const z) = z := fun _ => hfr _ rfl
      have ff : ∀ z, ρ (.func z) = .func (.func z) #[] #[] := fun _ => hfr _ rfl
      have f0 : ρ (.tmp 0) = .slice (some ⟨g, 0, none⟩) (m + 1) c := hfr _ rfl
      refine gives_val (u := .slice (some ⟨g, 0, none⟩) (m + 1) c) (w' := w1) (by go_simp) ⟨Below.refl _ _, rfl, (fun _ hk => by cases hk), hG⟩
    · intro ρ w1 hG hfr hd
      have fc : ∀ z, ρ (.const z) = z := fun _ => hfr _ rfl
      have ff : ∀ z, ρ (.func z) = .func (.func z) #[] #[] := fun _ => hfr _ rfl
      have f2 : ρ (.tmp 2) = .int .i64 ((i : Int) + 1) := hfr _ rfl
      refine gives_val (u := .int .i64 ((i : Int) + 1)) (w' := w1) (by go_simp) ⟨Below.refl _ _, rfl, (fun _ hk => by cases hk), hG⟩
    · intro ρ w1 hG hfr hd
      have fc : ∀ z, ρ (.const z) = z := fun _ => hfr _ rfl
      have ff : ∀ z, ρ (.func z) = .func (.func z) #[] #[] := fun _ => hfr _ rfl
      obtain ⟨d0, d1, -⟩ := hd
      have d0 : (ρ (.tmp 23)) = .slice (some ⟨g, 0, none⟩) (m + 1) c := d0
      have d1 : (ρ (.tmp 24)) = .int .i64 ((i : Int) + 1) := d1
      refine gives_val (u := .slice (some A) (m - i) (c - (i + 1))) (w' := w1) (by go_simp; rw [← hA]; split <;> rfl) ⟨Below.refl _ _, rfl, (fun _ hk => by cases hk), hG⟩
  intro vs w2 hG hlen hall hap hbd
  obtain ⟨xv0, vs0, rfl, hl0⟩ := len_cons hlen
  obtain ⟨xv1, vs1, rfl, hl1⟩ := len_cons hl0
  obtain ⟨xv2, vs2, rfl, hl2⟩ := len_cons hl1
  obtain ⟨xv3, vs3, rfl, hl3⟩ := len_cons hl2
  obtain ⟨xv4, vs4, rfl, hl4⟩ := len_cons hl3
  obtain ⟨xv5, vs5, rfl, hl5⟩ := len_cons hl4
  obtain rfl := len_nil hl5
  clear hlen hl0 hl1 hl2 hl3 hl4 hl5
  simp only [List.take_succ_cons, List.take_zero, List.drop_succ_cons, List.drop_zero] at hall ⊢
  obtain ⟨t0', t1', t2', t3', t4', t5', -⟩ := hall
  have hv0 : xv0 = .slice (some ⟨g, 0, none⟩) (m + 1) c := t0'
  have hv1 : xv1 = .int .i64 i := t1'
  have hv2 : xv2 = .slice (some ⟨g, 0, none⟩) i c := t2'
  have hv3 : xv3 = .slice (some ⟨g, 0, none⟩) (m + 1) c := t3'
  have hv4 : xv4 = .int .i64 ((i : Int) + 1) := t4'
  have hv5 : xv5 = .slice (some A) (m - i) (c - (i + 1)) := t5'
  clear t0' t1' t2' t3' t4' t5'
  clear hap hbd
  subst hv0 hv1 hv2 hv3 hv4 hv5
  simp only [putAll, Act.put, List.setIfInBounds_toArray, List.set_cons_succ, List.set_cons_zero]
  have hO2 := owns_below HO.out hG
  have h1 := H1.out
  have hcl := HC.out
  have htk := HT.out
  have hlc := HL.out
  obtain ⟨news, hnews⟩ : ∃ news, news = cs.drop ((i + 1)) := ⟨_, rfl⟩
  have hln : news.length = (m - i) := by rw [hnews, List.length_drop]; omega
  have h1n : ∀ u ∈ news, u.oneCell' = true := fun u hu => h1 u (List.mem_of_mem_drop (by rw [← hnews]; exact hu))
  have h1n' := Lib.hid h1n
  have hcell : ∀ j u, news[j]? = some u → w2.cell? (A.add j) = some u := by
    intro j u hj
    have hjl : j < news.length := (List.getElem?_eq_some_iff.1 hj).1
    have hne : ¬ c = i + 1 := by omega
    rw [← hA, if_neg hne, Addr.add_lit, hO2.cellAt _ (by omega)]
    rw [hnews, List.getElem?_drop, ← htk, List.getElem?_take_of_lt (by omega)] at hj
    exact hj
  obtain ⟨ii, hii, hz0, hz1, hz2⟩ := info_parts info_ops
  obtain ⟨W1, hW1⟩ : ∃ W1, W1 = w2.setCells g (i) news := ⟨_, rfl⟩
  have hsp : ∀ j, j < news.length → (w2.cell? ⟨g, 0 + i * ii.size + j, none⟩).isSome = true := by
    intro j hj
    rw [hz1, hO2.cellAt _ (by omega), List.getElem?_eq_getElem (by omega)]
    rfl
  have hap : ∀ ty, (Builtin.append_ #[24, 24] ty #[.slice (some ⟨g, 0, none⟩) i c, .slice (some A) (m - i) (c - (i + 1))]).run Try.prog w2 = .ok (.slice (some ⟨g, 0, none⟩) m c) W1 := by
    intro ty
    have h := run_append_room_cells (P := Try.prog) (w := w2) 24 ty 34 ii Try.underlying24 hii g 0 i c A (m - i) (c - (i + 1)) news (by rw [hz1]; omega) hcell h1n (by omega) hsp (fun j _ => hO2.frozenAt _)
    rw [show i + (m - i) = m by omega, hz1, Nat.zero_add, Nat.mul_one, ← hW1] at h
    exact h
  have R1 := owns_setCells news (i) w2 cur hO2 (by omega)
  rw [← hW1] at R1
  have hco : (over (i) news cur).length = c := by have := R1.1.1; omega
  have hclr : ∀ ty, (Builtin.clear_ #[24] ty #[.slice (some ⟨g, m, none⟩) 1 (c - m)]).run Try.prog W1 = .ok (.tuple #[]) (W1.setCells g (m) (Value.cells (.slice none 0 0)).toList) := fun ty =>
    run_clear_one W1 24 34 ty (.slice none 0 0) Try.underlying24 (fun _ => by kernel_rfl) (by decide) g (m) (c - m) (fun j hj => by
      have hj' : j < 1 := hj
      rw [R1.1.cellAt _ (by omega), List.getElem?_eq_getElem (by omega)]
      rfl) (fun j _ => R1.1.frozenAt _)
  have R2 := owns_setCells (Value.cells (.slice none 0 0)).toList (m) W1 _ R1.1 (by rw [hco]; show m + 1 ≤ c; omega)
  have R3 := owns_cut R2.1 (show m ≤ c by omega)
  have hdc := delete_cells cur cs (Value.cells (.slice none 0 0)).toList i (m + 1) 1 (by omega) htk (by omega) rfl
  simp only [Nat.mul_one, Nat.add_sub_cancel] at hdc
  simp only [Nat.mul_one] at R3
  rw [← hnews] at hdc
  rw [hdc] at R3
  have HG := Lib.hid (grown_trans R1.2 R2.2)
  have HGW := Lib.hid hG
  have HR := Lib.hid R3
  have HN := Lib.hid hnews
  clear R1 R2 R3 hdc hsp hcell hW1 hO2 h1 hcl htk hlc hln h1n hco hG hnews
  go_wp2_with (at_builtin; first | refine wpList_append_at rfl (.tmp 22) (.tmp 25) 24 rfl rfl rfl hap ?_ | refine wpList_clear_at rfl (.tmp 31) 24 rfl rfl hclr ?_)
  go_ret
  refine ⟨rfl, by rw [← HN.out]; exact HR.out, ?_⟩
  exact grown_trans ⟨HGW.out.os, HGW.out.tape, HGW.out.output, HGW.out.size, fun k hk _ => HGW.out.block k hk⟩ HG.out


end Go.Proofs.Ytnobkdkfhgjeeab
