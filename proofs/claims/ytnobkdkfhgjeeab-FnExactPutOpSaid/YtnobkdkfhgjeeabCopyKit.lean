/- A program's whole copy while it is made: the block that holds it, its rows. -/
import Derived.Test.YtnobkdkfhgjeeabLawKit
import Derived.Test.YtnobkdkfhgjeeabRegion2
namespace Go.Proofs.Ytnobkdkfhgjeeab
open Go.RowKit

/-- A row of one type does not lie in a block of another. -/
theorem blk_owns {w : World} {G : Nat} {cs : Array Value} {t : TypeId} (h : Blk w G cs t) {B : Nat} {e : TypeId} {sz n c : Nat} {a : Option Addr} {xs : List Value} (ho : w.ownsRow B e sz (.slice a n c) n xs) (hne : t ≠ e) : rowOf a ≠ some G := by
  intro hk
  rcases ho.2 with ⟨h', h0⟩ | ⟨g, cap, cur, h', hb, hg, hnc, hcm, hcs, htake⟩
  · simp only [Value.slice.injEq] at h'
    rw [h'.1] at hk; cases hk
  · simp only [Value.slice.injEq, true_and] at h'
    obtain ⟨rfl, rfl⟩ := h'
    obtain rfl : g = G := by simpa [rowOf] using hk
    unfold Blk at h
    rw [h] at hg
    simp only [Option.some.injEq, Obj.cells.injEq] at hg
    exact hne hg.2.1
theorem owns_owns {w : World} {B B' : Nat} {e e' : TypeId} {sz sz' n n' c c' : Nat} {a a' : Option Addr} {xs xs' : List Value} (h : w.ownsRow B e sz (.slice a n c) n xs) (h' : w.ownsRow B' e' sz' (.slice a' n' c') n' xs') (hne : e ≠ e') : ∀ k, rowOf a = some k → rowOf a' = some k → False := by
  intro k hk hk'
  rcases h.2 with ⟨h1, h0⟩ | ⟨g, cap, cur, h1, hb, hg, _⟩
  · simp only [Value.slice.injEq] at h1
    rw [h1.1] at hk; cases hk
  · simp only [Value.slice.injEq, true_and] at h1
    obtain ⟨rfl, rfl⟩ := h1
    obtain rfl : g = k := by simpa [rowOf] using hk
    exact blk_owns hg h' hne hk'

theorem types_ne : (3 : TypeId) ≠ 34 ∧ (44 : TypeId) ≠ 34 ∧ (26 : TypeId) ≠ 3 ∧ (26 : TypeId) ≠ 34 ∧ (26 : TypeId) ≠ 44 ∧ (3 : TypeId) ≠ 44 := by decide

theorem Inner.types {w : World} {vs : List Value} {rows : List (List Value)} (h : Inner w vs rows) : ∀ k ∈ fpV vs, ∃ cs fr, w.heap[k]? = some (.cells cs 44 fr) := by
  intro k hk
  obtain ⟨v, hv, hvk⟩ := List.mem_filterMap.1 hk
  obtain ⟨i, hi, e⟩ := List.mem_iff_getElem.1 hv
  obtain ⟨a', m, c', e', ho⟩ := h.inn i hi
  have : vs.getD i undef = v := by rw [List.getD_eq_getElem?_getD, List.getElem?_eq_getElem hi]; simp [e]
  rw [this] at e'
  subst e'
  rw [ownBlock_slice] at hvk
  rcases ho.2 with ⟨h1, h0⟩ | ⟨g, cap, cur, h1, hb, hg, _⟩
  · simp only [Value.slice.injEq] at h1
    rw [h1.1] at hvk; cases hvk
  · simp only [Value.slice.injEq, true_and] at h1
    obtain ⟨rfl, rfl⟩ := h1
    obtain rfl : g = k := by simpa [rowOf] using hvk
    exact ⟨_, _, hg⟩
theorem Inner.not_row {w : World} {vs : List Value} {rows : List (List Value)} (h : Inner w vs rows) {B : Nat} {e : TypeId} {sz n c : Nat} {a : Option Addr} {xs : List Value} (ho : w.ownsRow B e sz (.slice a n c) n xs) (hne : 44 ≠ e) : ∀ k, rowOf a = some k → k ∉ fpV vs := by
  intro k hk hm
  obtain ⟨cs, fr, hb⟩ := h.types k hm
  rcases ho.2 with ⟨h1, h0⟩ | ⟨g, cap, cur, h1, hb', hg, _⟩
  · simp only [Value.slice.injEq] at h1
    rw [h1.1] at hk; cases hk
  · simp only [Value.slice.injEq, true_and] at h1
    obtain ⟨rfl, rfl⟩ := h1
    obtain rfl : g = k := by simpa [rowOf] using hk
    rw [hb] at hg
    simp only [Option.some.injEq, Obj.cells.injEq] at hg
    exact hne hg.2.1
theorem Inner.not_blk {w : World} {vs : List Value} {rows : List (List Value)} (h : Inner w vs rows) {G : Nat} {cs : Array Value} {t : TypeId} (hb : Blk w G cs t) (hne : 44 ≠ t) : G ∉ fpV vs := by
  intro hm
  obtain ⟨cs', fr, hb'⟩ := h.types G hm
  unfold Blk at hb
  rw [hb] at hb'
  simp only [Option.some.injEq, Obj.cells.injEq] at hb'
  exact hne hb'.2.1.symm

/-- The copy, when k threads are in. -/
structure CopyAt (w : World) (B G : Nat) (v : PV) (vs : List Value) (p : Pg) (k : Nat) : Prop where
  blk : Blk w G #[.slice v.s v.ns v.cs, .slice v.g v.ng v.cg, .slice v.b v.nb v.cb, .slice v.r v.nr v.cr, .slice v.t v.nt v.ct] 26
  os : w.ownsRow B 3 1 (.slice v.s v.ns v.cs) v.ns (ints p.sems)
  og : w.ownsRow B 3 1 (.slice v.g v.ng v.cg) v.ng (ints p.groups)
  ob : w.ownsRow B 3 1 (.slice v.b v.nb v.cb) v.nb (ints p.barriers)
  orr : w.ownsRow B 3 1 (.slice v.r v.nr v.cr) v.nr (ints p.rooms)
  ot : w.ownsRow B 34 1 (.slice v.t v.nt v.ct) v.nt vs
  inn : Inner w vs ((p.threads.take k).map opsV)
  nd : (fpV vs).Nodup
  lo : ∀ q ∈ fpV vs, B ≤ q

theorem CopyAt.below {w w' : World} {B G : Nat} {v : PV} {vs : List Value} {p : Pg} {k : Nat} (h : CopyAt w B G v vs p k) (hb : Below w.heap.size w w') : CopyAt w' B G v vs p k :=
  ⟨h.blk.below hb, owns_below h.os hb, owns_below h.og hb, owns_below h.ob hb, owns_below h.orr hb, owns_below h.ot hb, h.inn.below hb, h.nd, h.lo⟩

def PV.thr (v : PV) (a : Option Addr) (n c : Nat) : PV := ⟨v.s, v.ns, v.cs, v.g, v.ng, v.cg, v.b, v.nb, v.cb, v.r, v.nr, v.cr, a, n, c⟩

theorem grown_set (w : World) (G j : Nat) (x : Value) : w.grownBy (w.setCell ⟨G, j, none⟩ x) (some G) := ⟨rfl, rfl, rfl, by simp, fun i _ hi => Below.heap_setCell _ _ _ _ (fun e => hi (by rw [e]))⟩

/-- One thread more. -/
theorem CopyAt.step {w w' : World} {B G : Nat} {v : PV} {vs : List Value} {p : Pg} {k : Nat} (h : CopyAt w B G v vs p k) (hk : k < p.threads.length) {a2 : Option Addr} {m c2 : Nat} (h2 : w.ownsRow 0 44 3 (.slice a2 m c2) m (opsV (p.threads.getD k [])))
    (hf : ∀ q, rowOf a2 = some q → B ≤ q ∧ q ∉ fpV vs) {a : Option Addr} {n c : Nat} (ho : w'.ownsRow B 34 1 (.slice a n c) n (vs ++ [.slice a2 m c2])) (hg : w.grownBy w' (rowOf v.t)) :
    CopyAt (w'.setCell ⟨G, 4, none⟩ (.slice a n c)) B G (v.thr a n c) (vs ++ [.slice a2 m c2]) p (k + 1) := by
  obtain ⟨t1, t2, t3, t4, t5, t6⟩ := types_ne
  have r1 : rowOf v.t ≠ some G := blk_owns h.blk h.ot t4
  have b1 := h.blk.grown hg r1
  have hin := h.inn.snoc h2
  have hin1 := hin.grown hg (hin.not_row h.ot t2)
  have s1 := owns_grown h.os hg (owns_owns h.os h.ot t1)
  have s2 := owns_grown h.og hg (owns_owns h.og h.ot t1)
  have s3 := owns_grown h.ob hg (owns_owns h.ob h.ot t1)
  have s4 := owns_grown h.orr hg (owns_owns h.orr h.ot t1)
  have g2 := grown_set w' G 4 (.slice a n c)
  have far : ∀ {e : TypeId} {sz n' c' B' : Nat} {a' : Option Addr} {xs : List Value}, w'.ownsRow B' e sz (.slice a' n' c') n' xs → 26 ≠ e → ∀ q, rowOf a' = some q → some G = some q → False := by
    intro e sz n' c' B' a' xs ho' hne q hq e'
    cases e'
    exact blk_owns b1 ho' hne hq
  refine ⟨?_, owns_grown s1 g2 (far s1 t3), owns_grown s2 g2 (far s2 t3), owns_grown s3 g2 (far s3 t3), owns_grown s4 g2 (far s4 t3), owns_grown ho g2 (far ho t4), ?_, ?_, ?_⟩
  · have := b1.set 4 (.slice a n c)
    simpa [PV.thr] using this
  · rw [rows_take_succ p.threads k hk]
    exact hin1.grown g2 (fun q hq => by cases hq; exact hin1.not_blk b1 (fun e => t5 e.symm))
  · rw [fpV_snoc]
    exact nodup_snoc h.nd (fun q hq => (hf q hq).2)
  · intro q hq
    rw [fpV_snoc, List.mem_append] at hq
    rcases hq with hq | hq
    · exact h.lo q hq
    · exact (hf q (by simpa using hq)).1

/-- The rows of a whole copy. -/
theorem CopyAt.own {w : World} {B G : Nat} {v : PV} {vs : List Value} {p : Pg} {k : Nat} (h : CopyAt w B G v vs p k) (hk : k = p.threads.length) : OwnP w v vs p.cells := by
  have e : p.threads.take k = p.threads := by rw [hk, List.take_length]
  have hin := h.inn
  rw [e] at hin
  exact ⟨owns_mono h.os (Nat.zero_le _), owns_mono h.og (Nat.zero_le _), owns_mono h.ob (Nat.zero_le _), owns_mono h.orr (Nat.zero_le _), OwnT.of_inner (owns_mono h.ot (Nat.zero_le _)) hin⟩
theorem CopyAt.fresh {w : World} {B G : Nat} {v : PV} {vs : List Value} {p : Pg} {k : Nat} (h : CopyAt w B G v vs p k) : ∀ q ∈ fpP v vs, B ≤ q := by
  intro q hq
  unfold fpP at hq
  simp only [List.mem_append, Option.mem_toList] at hq
  rcases hq with hq | hq | hq | hq | hq
  · exact (owns_row h.os q hq).1
  · exact (owns_row h.og q hq).1
  · exact (owns_row h.ob q hq).1
  · exact (owns_row h.orr q hq).1
  · rw [fpT_eq, List.mem_append] at hq
    rcases hq with hq | hq
    · exact (owns_row h.ot q (by simpa using hq)).1
    · exact h.lo q hq

/-- Thread i of a program, in memory. -/
theorem RdP.thr {w : World} {v : PV} {p : Pg} (h : RdP w v p) (hne : 0 < p.threads.length) : ∃ b o, v.t = some ⟨b, o, none⟩ ∧ ∀ i, i < p.threads.length → ∃ a' c', w.cell? ⟨b, o + i, none⟩ = some (.slice a' (p.threads.getD i []).length c') ∧ Rd w a' (opsV (p.threads.getD i [])) := by
  obtain ⟨vs, hT⟩ := h.rt
  exact hT.thread hne

/-- The four rows of numbers lie apart, where they are not empty; an empty one has no room. -/
structure Four (v : PV) : Prop where
  sg : ∀ k, slBk v.ns (.slice v.s v.ns v.cs) = some k → slBk v.ng (.slice v.g v.ng v.cg) ≠ some k
  sb : ∀ k, slBk v.ns (.slice v.s v.ns v.cs) = some k → slBk v.nb (.slice v.b v.nb v.cb) ≠ some k
  sr : ∀ k, slBk v.ns (.slice v.s v.ns v.cs) = some k → slBk v.nr (.slice v.r v.nr v.cr) ≠ some k
  gb : ∀ k, slBk v.ng (.slice v.g v.ng v.cg) = some k → slBk v.nb (.slice v.b v.nb v.cb) ≠ some k
  gr : ∀ k, slBk v.ng (.slice v.g v.ng v.cg) = some k → slBk v.nr (.slice v.r v.nr v.cr) ≠ some k
  br : ∀ k, slBk v.nb (.slice v.b v.nb v.cb) = some k → slBk v.nr (.slice v.r v.nr v.cr) ≠ some k
  zs : v.ns = 0 → v.cs = 0
  zg : v.ng = 0 → v.cg = 0
  zb : v.nb = 0 → v.cb = 0
  zr : v.nr = 0 → v.cr = 0

theorem Four.thr {v : PV} (h : Four v) (a : Option Addr) (n c : Nat) : Four (v.thr a n c) := ⟨h.sg, h.sb, h.sr, h.gb, h.gr, h.br, h.zs, h.zg, h.zb, h.zr⟩

/-- The four rows of numbers lie apart. -/
structure FourF (v : PV) : Prop where
  sg : ∀ k, rowOf v.s = some k → rowOf v.g ≠ some k
  sb : ∀ k, rowOf v.s = some k → rowOf v.b ≠ some k
  sr : ∀ k, rowOf v.s = some k → rowOf v.r ≠ some k
  gb : ∀ k, rowOf v.g = some k → rowOf v.b ≠ some k
  gr : ∀ k, rowOf v.g = some k → rowOf v.r ≠ some k
  br : ∀ k, rowOf v.b = some k → rowOf v.r ≠ some k
theorem FourF.of {a0 a1 a2 a3 a : Option Addr} {n0 n1 n2 n3 n c0 c1 c2 c3 c : Nat}
    (h1 : ∀ k, Value.ownBlock (.slice a0 n0 c0) = some k → Value.ownBlock (.slice a1 n1 c1) ≠ some k) (h2 : ∀ k, Value.ownBlock (.slice a0 n0 c0) = some k → Value.ownBlock (.slice a2 n2 c2) ≠ some k)
    (h3 : ∀ k, Value.ownBlock (.slice a0 n0 c0) = some k → Value.ownBlock (.slice a3 n3 c3) ≠ some k) (h4 : ∀ k, Value.ownBlock (.slice a1 n1 c1) = some k → Value.ownBlock (.slice a2 n2 c2) ≠ some k)
    (h5 : ∀ k, Value.ownBlock (.slice a1 n1 c1) = some k → Value.ownBlock (.slice a3 n3 c3) ≠ some k) (h6 : ∀ k, Value.ownBlock (.slice a2 n2 c2) = some k → Value.ownBlock (.slice a3 n3 c3) ≠ some k) :
    FourF ⟨a0, n0, c0, a1, n1, c1, a2, n2, c2, a3, n3, c3, a, n, c⟩ := by
  simp only [ownBlock_slice] at h1 h2 h3 h4 h5 h6
  exact ⟨h1, h2, h3, h4, h5, h6⟩
theorem FourF.thr {v : PV} (h : FourF v) (a : Option Addr) (n c : Nat) : FourF (v.thr a n c) := ⟨h.sg, h.sb, h.sr, h.gb, h.gr, h.br⟩

theorem CopyAt.nodup {w : World} {B G : Nat} {v : PV} {vs : List Value} {p : Pg} {k : Nat} (h : CopyAt w B G v vs p k) (f : FourF v) : (fpP v vs).Nodup := by
  obtain ⟨t1, t2, t3, t4, t5, t6⟩ := types_ne
  have ht : (fpT v.t vs).Nodup := by
    rw [fpT_eq]
    exact nodup_opt h.nd (h.inn.not_row h.ot t2)
  have no : ∀ {a : Option Addr} {n c : Nat} {xs : List Value}, w.ownsRow B 3 1 (.slice a n c) n xs → ∀ q, rowOf a = some q → q ∉ fpT v.t vs := by
    intro a n c xs ho q hq hm
    rw [fpT_eq, List.mem_append] at hm
    rcases hm with hm | hm
    · exact owns_owns ho h.ot t1 q hq (by simpa using hm)
    · exact h.inn.not_row ho (fun e => t6 e.symm) q hq hm
  unfold fpP
  refine nodup_opt (nodup_opt (nodup_opt (nodup_opt ht (no h.orr)) (fun q hq hm => ?_)) (fun q hq hm => ?_)) (fun q hq hm => ?_)
  all_goals simp only [List.mem_append, Option.mem_toList] at hm
  · rcases hm with hm | hm
    · exact f.br q hq hm
    · exact no h.ob q hq hm
  · rcases hm with hm | hm | hm
    · exact f.gb q hq hm
    · exact f.gr q hq hm
    · exact no h.og q hq hm
  · rcases hm with hm | hm | hm | hm
    · exact f.sg q hq hm
    · exact f.sb q hq hm
    · exact f.sr q hq hm
    · exact no h.os q hq hm

end Go.Proofs.Ytnobkdkfhgjeeab
