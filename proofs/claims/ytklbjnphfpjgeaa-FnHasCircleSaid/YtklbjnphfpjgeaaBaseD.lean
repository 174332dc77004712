/- An operation is drawn: l6Op. An operation is drawn: l6Op. A block that has just been laid is an owned row. slices.Delete, of one element. 'append' onto an owned row: what shorter rows hold stays. No program in sight. Plain facts for drawn programs: few and small rows; appends that keep rows apart. A program is drawn: l6Draw. A program's whole copy, in the reference's text. A program is bent: l6Wrong. Draws of programs. -/
import Derived.Test.YtklbjnphfpjgeaaBaseC
import Derived.Test.YtklbjnphfpjgeaaBaseA
import Derived.Lib.SliceRun
import Derived.ArgAppend
import Derived.Test.YtklbjnphfpjgeaaBaseB
import Derived.Deep.RegionLaw
namespace Go.Proofs.Ytklbjnphfpjgeaa
open Go.RowKit

theorem grown_of_below {w w' : World} (hb : Below w.heap.size w w') (row : Option Nat) : w.grownBy w' row :=
  grown_new (grown_trans (row := row) ⟨rfl, rfl, rfl, Nat.le_refl _, fun _ _ _ => rfl⟩ ⟨rfl, rfl, rfl, Nat.le_refl _, fun _ _ _ => rfl⟩) (row' := none) ⟨hb.os, hb.tape, hb.output, hb.size, fun k hk _ => hb.block k hk⟩ (fun i e => by cases e)
theorem OwnP.drawn {w w' : World} {v : PV} {vs : List Value} {C : Cells} {R : Nat} (h : OwnP w v vs C) (hg : w.grownBy w' (some R)) (hR : R ∉ fpP v vs) : OwnP w' v vs C :=
  h.keep fun k hk hl => hg.block k hl (fun e => by cases e; exact hR hk)

/-- num at a list that has just been laid. -/
theorem num_new (R : Nat) (a : Option Addr) (n c : Nat) (bs : List Int) (p : Int) (m : Nat) (xs : List Int) (w : World) (h : Rdr w R a n c bs p) (hp : p ≤ 1099511627776) (hl : xs.length = m) (hm : 1 ≤ m) (hm2 : m ≤ 1000) (g : Nat) (hg : g = w.heap.size) (cs : Array Value) (hcs : cs = (ints xs).toArray) :
    Calls Try.prog 34 #[.pointer (some ⟨R, 0, none⟩), .slice (some ⟨g, 0, none⟩) m m] (w.alloc (.cells cs 3)) fun e w' =>
      ∃ v : Int, e = .returned (.int .i64 v) ∧ v ∈ xs ∧ Rdr w' R a n c bs (p + 1) ∧ w.grownBy w' (some R) ∧ w.heap.size ≤ w'.heap.size := by
  subst hg hcs
  have hb : Below w.heap.size w (w.alloc (.cells (ints xs).toArray 3)) := (Below.refl _ _).alloc (Nat.le_refl _) _
  refine (num_any R a n c bs p w.heap.size m m xs _ (h.below hb) hp hl hm hm2 (by simpa using Rd.of_blk (Blk.new w (ints xs).toArray 3)) (by have := h.lt; omega)).mono ?_
  rintro e w' ⟨v, rfl, hv, hr, hg, hs⟩
  exact ⟨v, rfl, hv, hr, grown_trans (grown_of_below hb _) hg, Nat.le_trans hb.size hg.size⟩

end Go.Proofs.Ytklbjnphfpjgeaa
namespace Go.Proofs.Ytklbjnphfpjgeaa
open Go.RowKit

end Go.Proofs.Ytklbjnphfpjgeaa
namespace Go.Proofs.Ytklbjnphfpjgeaa
open Go.RowKit

theorem owns_of_blk {w : World} {g B : Nat} {cs : Array Value} {e : TypeId} (h : Blk w g cs e) (hB : B ≤ g) {sz m : Nat} (hm : cs.size = m * sz) (hle : m ≤ maxLen) : w.ownsRow B e sz (.slice (some ⟨g, 0, none⟩) m m) m cs.toList :=
  ⟨by simpa using hm, .inr ⟨g, m, cs, rfl, hB, h, Nat.le_refl _, hle, hm, by rw [← hm, ← Array.length_toList, List.take_length]⟩⟩

/-- A program's block whose four rows of numbers are owned, and no threads yet. -/
theorem CopyAt.four {w : World} {B G : Nat} {a0 a1 a2 a3 : Option Addr} {n0 n1 n2 n3 c0 c1 c2 c3 : Nat} {l0 l1 l2 l3 : List Int}
    (h : Blk w G #[.slice a0 n0 c0, .slice a1 n1 c1, .slice a2 n2 c2, .slice a3 n3 c3, .slice none 0 0] 56)
    (o0 : w.ownsRow B 3 1 (.slice a0 n0 c0) n0 (ints l0)) (o1 : w.ownsRow B 3 1 (.slice a1 n1 c1) n1 (ints l1)) (o2 : w.ownsRow B 3 1 (.slice a2 n2 c2) n2 (ints l2)) (o3 : w.ownsRow B 3 1 (.slice a3 n3 c3) n3 (ints l3)) :
    CopyAt w B G ⟨a0, n0, c0, a1, n1, c1, a2, n2, c2, a3, n3, c3, none, 0, 0⟩ [] ⟨l0, l1, l2, l3, []⟩ 0 :=
  ⟨h, o0, o1, o2, o3, ⟨by simp, .inl ⟨rfl, rfl⟩⟩, Inner.nil w, by simp [fpV], by simp [fpV]⟩

/-- CopyAt over the reader's step. -/
theorem CopyAt.drawn {w w' : World} {B G R : Nat} {v : PV} {vs : List Value} {p : Pg} {k : Nat} (h : CopyAt w B G v vs p k) (hg : w.grownBy w' (some R)) (hR : R < B) (hG : R ≠ G) : CopyAt w' B G v vs p k := by
  have far : ∀ {e : TypeId} {sz n' c' : Nat} {a' : Option Addr} {xs : List Value}, w.ownsRow B e sz (.slice a' n' c') n' xs → ∀ q, rowOf a' = some q → some R = some q → False := by
    intro e sz n' c' a' xs ho q hq e'
    cases e'
    have := (owns_row (cs := xs) ho R hq).1
    omega
  exact ⟨h.blk.grown hg (by simpa using hG), owns_grown h.os hg (far h.os), owns_grown h.og hg (far h.og), owns_grown h.ob hg (far h.ob), owns_grown h.orr hg (far h.orr), owns_grown h.ot hg (far h.ot), h.inn.grown hg (fun q hq hm => by cases hq; have := h.lo _ hm; omega), h.nd, h.lo⟩

end Go.Proofs.Ytklbjnphfpjgeaa
namespace Go.Proofs.Ytklbjnphfpjgeaa
open Go.RowKit

/-- What a row of cells is where some are written over. -/
def over (o : Nat) (us cs : List Value) : List Value := cs.take o ++ us ++ cs.drop (o + us.length)
theorem over_cons (o : Nat) (u : Value) (us cs : List Value) (h : o + us.length + 1 ≤ cs.length) : over (o + 1) us (cs.set o u) = over o (u :: us) cs := by
  unfold over
  have e1 : (cs.set o u).take (o + 1) = cs.take o ++ [u] := by
    rw [List.take_add_one, List.take_set_of_le (Nat.le_refl o)]
    simp [show o < cs.length by omega]
  have e2 : (cs.set o u).drop (o + 1 + us.length) = cs.drop (o + (us.length + 1)) := by
    rw [List.drop_set_of_lt (by omega)]
    congr 1; omega
  rw [e1, e2]
  simp
theorem owns_setCells {B : Nat} {e : TypeId} {sz n c g : Nat} : ∀ (us : List Value) (o : Nat) (w : World) (cs : List Value), w.ownsRow B e sz (.slice (some ⟨g, 0, none⟩) n c) n cs → o + us.length ≤ cs.length →
    (w.setCells g o us).ownsRow B e sz (.slice (some ⟨g, 0, none⟩) n c) n (over o us cs) ∧ w.grownBy (w.setCells g o us) (some g)
  | [], o, w, cs, h, _ => by
    have : over o [] cs = cs := by simp [over]
    rw [this]
    exact ⟨h, World.grownBy.refl _ _⟩
  | u :: us, o, w, cs, h, hl => by
    simp only [List.length_cons] at hl
    have h1 := owns_store h o u rfl
    have h2 := owns_setCells us (o + 1) (w.setCell ⟨g, o, none⟩ u) (cs.set o u) h1.1 (by simp; omega)
    rw [over_cons o u us cs (by omega)] at h2
    exact ⟨h2.1, grown_trans h1.2 h2.2⟩

/-- An owned row, with its room. -/
theorem owns_full {w : World} {B : Nat} {e : TypeId} {sz n c g : Nat} {cs : List Value} (h : w.ownsRow B e sz (.slice (some ⟨g, 0, none⟩) n c) n cs) :
    ∃ cur : List Value, w.ownsRow B e sz (.slice (some ⟨g, 0, none⟩) c c) c cur ∧ cur.take (n * sz) = cs ∧ n ≤ c ∧ c ≤ maxLen ∧ cur.length = c * sz := by
  obtain ⟨hl, ⟨h', _⟩ | ⟨g', cap', cur, h', hb, hg, h1, h2, h3, h4⟩⟩ := h
  · cases h'
  · cases h'
    refine ⟨cur.toList, ⟨by simpa using h3, .inr ⟨g, c, cur, rfl, hb, hg, Nat.le_refl _, h2, h3, ?_⟩⟩, h4, h1, h2, by simpa using h3⟩
    rw [List.take_of_length_le (by simp; omega)]
theorem owns_cut {w : World} {B : Nat} {e : TypeId} {sz m c g : Nat} {cur : List Value} (h : w.ownsRow B e sz (.slice (some ⟨g, 0, none⟩) c c) c cur) (hm : m ≤ c) :
    w.ownsRow B e sz (.slice (some ⟨g, 0, none⟩) m c) m (cur.take (m * sz)) := by
  obtain ⟨hl, ⟨h', _⟩ | ⟨g', cap', cc, h', hb, hg, h1, h2, h3, h4⟩⟩ := h
  · cases h'
  · cases h'
    have hmc : m * sz ≤ c * sz := Nat.mul_le_mul_right sz hm
    have e1 : cc.toList = cur := by rw [← h4, List.take_of_length_le (by simp; omega)]
    refine ⟨by rw [List.length_take]; omega, .inr ⟨g, c, cc, rfl, hb, hg, hm, h2, h3, by rw [e1]⟩⟩

theorem delete_cells (cur cs : List Value) (zs : List Value) (i n sz : Nat) (hi : i < n) (hc : cur.take (n * sz) = cs) (hn : n * sz ≤ cur.length) (hz : zs.length = sz) :
    (over ((n - 1) * sz) zs (over (i * sz) (cs.drop ((i + 1) * sz)) cur)).take ((n - 1) * sz) = cs.take (i * sz) ++ cs.drop ((i + 1) * sz) := by
  have hl : cs.length = n * sz := by rw [← hc, List.length_take]; omega
  have k1 : (i + 1) * sz = i * sz + sz := by rw [Nat.add_mul, Nat.one_mul]
  have k2 : (n - 1) * sz + sz = n * sz := by rw [← Nat.succ_mul]; congr 1; omega
  have k3 : (i + 1) * sz ≤ n * sz := Nat.mul_le_mul_right sz hi
  have e : cs.take (i * sz) = cur.take (i * sz) := by rw [← hc, List.take_take, Nat.min_eq_left (by omega)]
  unfold over
  rw [List.append_assoc, List.take_append_of_le_length (by simp; omega), List.take_take, Nat.min_self, List.take_append_of_le_length (by simp; omega), List.take_of_length_le (by simp; omega), e]

theorem run_clear_one {P : Program} (w : World) (t e ty : TypeId) (z : Value) (ht : P.underlying t = some (.slice e)) (hv : ∀ w, (zeroValue e).run P w = .ok z w) (h1 : ∀ u ∈ z.cells.toList, u.oneCell' = true) (b o c : Nat)
    (hc : ∀ j, j < z.cells.size → (w.cell? ⟨b, o + j, none⟩).isSome = true) (hf : ∀ j, j < z.cells.size → w.frozen? ⟨b, o + j, none⟩ = false) :
    (Builtin.clear_ #[t] ty #[.slice (some ⟨b, o, none⟩) 1 c]).run P w = .ok (.tuple #[]) (w.setCells b o z.cells.toList) := by
  have hzc : (Builtin.zeroCells z.cells 1).toList = z.cells.toList := by
    apply List.ext_getElem
    · simp [Builtin.zeroCells]
    · intro i h1 h2
      simp only [Array.length_toList] at h2
      simp [Builtin.zeroCells, Nat.mod_eq_of_lt h2, h2]
  have hst := run_storeCells_cells (P := P) b o z.cells.toList 0 w (by simpa using hc) (by simpa using hf) h1
  simp only [Nat.add_zero] at hst
  simp [Builtin.clear_, run_underlying ht, hv, hzc, hst]

/-- 'append' whose run is known, at the operation and as a step. -/
theorem wp_append_at {P : Program} {wr w1 : World} {o : Oper} {ac : Act} {K : Act → World → Prop} {Q : Exit → Act → World → Prop} (s x : Operand) (t : TypeId)
    (ho : o.op = .call { callee := .builtin .append, args := #[s, x], argTypes := #[t, t] }) {vs vx r : Value} (hs : ac.eval s = vs) (hx : ac.eval x = vx)
    (hr : ∀ ty, (Builtin.append_ #[t, t] ty #[vs, vx]).run P wr = .ok r w1) (h : K (ac.put o.dst r) w1) : o.wp P ac wr K Q := by
  unfold Oper.wp execOp
  simp only [ho, resolve, invoke, builtin, Sem.run_bind, Sem.run_pure, Result.andThen_ok, List.map_toArray, List.map_cons, List.map_nil, hs, hx, hr]
  exact h
theorem wpList_append_at {P : Program} {wr w1 : World} {ops : Array Oper} {rest : List Oper} {o : Oper} {ac : Act} {Q : Exit → Act → World → Prop} (hgd : o.guard = none) (s x : Operand) (t : TypeId)
    (ho : o.op = .call { callee := .builtin .append, args := #[s, x], argTypes := #[t, t] }) {vs vx r : Value} (hs : ac.eval s = vs) (hx : ac.eval x = vx)
    (hr : ∀ ty, (Builtin.append_ #[t, t] ty #[vs, vx]).run P wr = .ok r w1) (h : wpList P ops Q rest (ac.put o.dst r) w1) : wpList P ops Q (o :: rest) ac wr := by
  have hw : Region.wanted o (yielded ops ac.tmps) = true := by simp [Region.wanted, hgd]
  unfold wpList
  rw [if_pos hw]
  exact .inl (wp_append_at s x t ho hs hx hr h)
/-- 'clear' whose run is known. -/
theorem wp_clear_at {P : Program} {wr w1 : World} {o : Oper} {ac : Act} {K : Act → World → Prop} {Q : Exit → Act → World → Prop} (x : Operand) (t : TypeId)
    (ho : o.op = .call { callee := .builtin .clear, args := #[x], argTypes := #[t] }) {vx r : Value} (hx : ac.eval x = vx)
    (hr : ∀ ty, (Builtin.clear_ #[t] ty #[vx]).run P wr = .ok r w1) (h : K (ac.put o.dst r) w1) : o.wp P ac wr K Q := by
  unfold Oper.wp execOp
  simp only [ho, resolve, invoke, builtin, Sem.run_bind, Sem.run_pure, Result.andThen_ok, List.map_toArray, List.map_cons, List.map_nil, hx, hr]
  exact h
theorem wpList_clear_at {P : Program} {wr w1 : World} {ops : Array Oper} {rest : List Oper} {o : Oper} {ac : Act} {Q : Exit → Act → World → Prop} (hgd : o.guard = none) (x : Operand) (t : TypeId)
    (ho : o.op = .call { callee := .builtin .clear, args := #[x], argTypes := #[t] }) {vx r : Value} (hx : ac.eval x = vx)
    (hr : ∀ ty, (Builtin.clear_ #[t] ty #[vx]).run P wr = .ok r w1) (h : wpList P ops Q rest (ac.put o.dst r) w1) : wpList P ops Q (o :: rest) ac wr := by
  have hw : Region.wanted o (yielded ops ac.tmps) = true := by simp [Region.wanted, hgd]
  unfold wpList
  rw [if_pos hw]
  exact .inl (wp_clear_at x t ho hx hr h)

end Go.Proofs.Ytklbjnphfpjgeaa
namespace Go.Proofs.Ytklbjnphfpjgeaa
open Go.RowKit

/-- Owned rows of at most n elements stay. -/
def KeepsRows (e : TypeId) (size n : Nat) (w w' : World) : Prop := ∀ (B' : Nat) (az : Option Addr) (k cz : Nat) (ys : List Value), k ≤ n → w.ownsRow B' e size (.slice az k cz) k ys → w'.ownsRow B' e size (.slice az k cz) k ys

theorem keeps_of_none {e : TypeId} {size n : Nat} {w w' : World} (h : w.grownBy w' none) : KeepsRows e size n w w' := fun _ _ _ _ _ _ ho => owns_grown ho h (fun _ _ h2 => by cases h2)

theorem owns_cells {w : World} {B : Nat} {e : TypeId} {sz n c g : Nat} {cs : List Value} (h : w.ownsRow B e sz (.slice (some ⟨g, 0, none⟩) n c) n cs) : ∃ cur : Array Value, w.heap[g]? = some (.cells cur e) ∧ cur.size = c * sz := by
  rcases h.2 with ⟨h', _⟩ | ⟨g', cap', cur, h', hb, hg, h1, h2, h3, h4⟩
  · cases h'
  · cases h'
    exact ⟨cur, hg, h3⟩

/-- Cells are written behind the first n elements of an owned row. -/
theorem keeps_room {w : World} {B : Nat} {e : TypeId} {sz n c g : Nat} {cs news : List Value} (h : w.ownsRow B e sz (.slice (some ⟨g, 0, none⟩) n c) n cs) (hl : n * sz + news.length ≤ c * sz) : KeepsRows e sz n w (w.setCells g (n * sz) news) := by
  intro B' az k cz ys hk ho
  obtain ⟨cur, hf, -, -, -, hcl⟩ := owns_full h
  have hg := (owns_setCells news (n * sz) w cur hf (by omega)).2
  by_cases hb : rowOf az = some g
  · rcases ho.2 with ⟨h', h0⟩ | ⟨g', cap', cur', h', hb', hg', h1, h2, h3, h4⟩
    · cases h'; cases hb
    · simp only [Value.slice.injEq, true_and] at h'
      obtain ⟨rfl, rfl⟩ := h'
      obtain rfl : g' = g := by simpa [rowOf] using hb
      obtain ⟨cz', e1, e2⟩ := owns_cells h
      rw [hg'] at e1
      have e3 : cur' = cz' := by simpa using e1
      rw [← e3, h3] at e2
      obtain ⟨cur2, hf2, ht2, -, -, hcl2⟩ := owns_full ho
      have R := owns_setCells news (n * sz) w cur2 hf2 (by omega)
      have R2 := owns_cut R.1 h1
      have hks : k * sz ≤ n * sz := Nat.mul_le_mul_right sz hk
      have e5 : (over (n * sz) news cur2).take (k * sz) = ys := by
        unfold over
        rw [List.append_assoc, List.take_append_of_le_length (by rw [List.length_take]; omega), List.take_take, Nat.min_eq_left hks, ht2]
      rw [e5] at R2
      exact R2
  · exact owns_grown ho hg (fun q h1 h2 => hb (h1.trans h2.symm))

theorem run_append_keep {P : Program} {w : World} (t ty : TypeId) {B : Nat} {e : TypeId} {z : Value} {size bytes : Nat} (ht : P.underlying t = some (.slice e)) (hinfo : (P.info? e).map (fun i => (i.zero, i.size, i.bytes)) = some (some z, size, bytes))
    (hzs : z.cells.size = size) (hsz : 0 < size) {a : Option Addr} {n c : Nat} {xs : List Value} (hown : w.ownsRow B e size (.slice a n c) n xs)
    {a2 : Option Addr} {m c2 : Nat} {news : List Value} (hl : news.length = m * size) (hsrc : Rd w a2 news) (h1 : ∀ u ∈ news, u.oneCell' = true) (hbytes : (n + m) * bytes ≤ 140737488355328) (hby : 0 < bytes) (hbase : B ≤ w.heap.size) :
    ∃ a' c' w', (Builtin.append_ #[t, t] ty #[.slice a n c, .slice a2 m c2]).run P w = .ok (.slice a' (n + m) c') w' ∧ w'.ownsRow B e size (.slice a' (n + m) c') (n + m) (xs ++ news) ∧ w.grownBy w' (rowOf a) ∧ KeepsRows e size n w w' := by
  obtain ⟨i, hi, hz0, hz1, hz2⟩ := info_parts hinfo
  have h63 : n + m ≤ maxLen := by
    have := Nat.le_trans (Nat.le_mul_of_pos_right (n + m) hby) hbytes
    simp only [maxLen]; omega
  cases a2 with
  | none =>
    have hn0 : news = [] := by
      rcases hsrc with h | ⟨b, o, e', _⟩
      · exact h
      · cases e'
    subst hn0
    have hm : m = 0 := by
      simp only [List.length_nil] at hl
      rcases Nat.mul_eq_zero.1 hl.symm with h | h
      · exact h
      · omega
    subst hm
    refine ⟨a, c, w, run_append_owned_none' (P := P) (w := w) B t ty e i size ht hi _ n xs hown c2, by simpa using hown, World.grownBy.refl _ _, keeps_of_none (World.grownBy.refl _ _)⟩
  | some ad =>
    have hnews : ∀ j u, news[j]? = some u → w.cell? (ad.add j) = some u := by
      intro j u hj
      have hjl : j < news.length := (List.getElem?_eq_some_iff.1 hj).1
      obtain ⟨b, o', e', hc⟩ := hsrc.at (by omega)
      cases e'
      rw [Addr.add_lit, hc j hjl]
      rw [List.getD_eq_getElem?_getD, hj]; rfl
    have grew : ∀ v' w', (Builtin.append_ #[t, t] ty #[.slice a n c, .slice (some ad) m c2]).run P w = .ok v' w' → w'.ownsRow w.heap.size e size v' (n + m) (xs ++ news) → w.grownBy w' none → ∃ a' c' w', (Builtin.append_ #[t, t] ty #[.slice a n c, .slice (some ad) m c2]).run P w = .ok (.slice a' (n + m) c') w' ∧ w'.ownsRow B e size (.slice a' (n + m) c') (n + m) (xs ++ news) ∧ w.grownBy w' (rowOf a) ∧ KeepsRows e size n w w' := by
      intro v' w' hrun r1 r2
      obtain ⟨a', c', rfl⟩ := owns_slice r1
      exact ⟨a', c', w', hrun, owns_mono r1 hbase, ⟨r2.os, r2.tape, r2.output, r2.size, fun k hk _ => r2.block k hk (by simp)⟩, keeps_of_none r2⟩
    rcases hown.2 with ⟨h', h0⟩ | ⟨g, cap, cur, h', hb, hg, hnc, hcm, hcs, htake⟩
    · simp only [Value.slice.injEq] at h'
      obtain ⟨rfl, rfl, rfl⟩ := h'
      obtain ⟨v', w', hrun, r1, r2, _⟩ := run_append_own (P := P) w w.heap.size t ty e i z size bytes ht hi hz0 hz1 hz2 hzs hsz (.slice none 0 0) 0 xs (by have := hown.1; simp only [Nat.zero_mul] at this; rw [List.eq_nil_of_length_eq_zero this]; exact World.ownsRow_nil w _ e size) ad m c2 news hl hnews h1 h63 hbytes (Nat.le_refl _)
      exact grew v' w' hrun r1 r2
    · simp only [Value.slice.injEq, true_and] at h'
      obtain ⟨rfl, rfl⟩ := h'
      by_cases hroom : n + m ≤ c
      · obtain ⟨curL, hfull, htk, -, -, hcl⟩ := owns_full hown
        have hmul : n * size + news.length ≤ c * size := by
          rw [hl, ← Nat.add_mul]; exact Nat.mul_le_mul_right size hroom
        have hrun := run_append_room_cells (P := P) (w := w) t ty e i ht hi g 0 n c ad m c2 news (by rw [hz1]; exact hl) hnews h1 hroom
          (fun j hj => by rw [hz1, Nat.zero_add, hfull.cellAt _ (by omega), List.getElem?_eq_getElem (by omega)]; rfl) (fun j _ => hfull.frozenAt _)
        rw [hz1, Nat.zero_add] at hrun
        have R := owns_setCells news (n * size) w curL hfull (by omega)
        have R2 := owns_cut R.1 hroom
        have e5 : (over (n * size) news curL).take ((n + m) * size) = xs ++ news := by
          unfold over
          have hx : xs.length = n * size := hown.1
          rw [htk, Nat.add_mul, ← hl, ← hx, ← List.length_append, List.take_left' rfl]
        rw [e5] at R2
        exact ⟨_, _, _, hrun, R2, R.2, keeps_room hown hmul⟩
      · obtain ⟨v', w', hrun, r1, r2⟩ := run_append_arg_grows (P := P) w t ty e i z size bytes ht hi hz0 hz1 hz2 hzs hsz ⟨g, 0, none⟩ n c xs hown.1 (fun j u hj => by
          have hjl : j < xs.length := (List.getElem?_eq_some_iff.1 hj).1
          rw [Addr.add_lit, Nat.zero_add, hown.cellAt j (by have := hown.1; omega)]; exact hj) ad m c2 news hl hnews (by omega) h63 hbytes
        exact grew v' w' hrun r1 r2

theorem gives_append_keep {P : Program} {o : Oper} {ρ : Operand → Value} {w : World} {post : Value → World → Prop} (s x : Operand) (t : TypeId)
    (ho : o.op = .call { callee := .builtin .append, args := #[s, x], argTypes := #[t, t] }) {B : Nat} {e : TypeId} {z : Value} {size bytes : Nat} (ht : P.underlying t = some (.slice e)) (hinfo : (P.info? e).map (fun i => (i.zero, i.size, i.bytes)) = some (some z, size, bytes))
    (hzs : z.cells.size = size) (hsz : 0 < size) {a : Option Addr} {n c : Nat} {xs : List Value} (hs : ρ s = .slice a n c) (hown : w.ownsRow B e size (.slice a n c) n xs)
    {a2 : Option Addr} {m c2 : Nat} {news : List Value} (hx : ρ x = .slice a2 m c2) (hl : news.length = m * size) (hsrc : Rd w a2 news) (h1 : ∀ u ∈ news, u.oneCell' = true) (hbytes : (n + m) * bytes ≤ 140737488355328) (hby : 0 < bytes) (hbase : B ≤ w.heap.size)
    (h : ∀ a' c' w', w'.ownsRow B e size (.slice a' (n + m) c') (n + m) (xs ++ news) → w.grownBy w' (rowOf a) → KeepsRows e size n w w' → post (.slice a' (n + m) c') w') : gives P o ρ w post := by
  obtain ⟨a', c', w', hr, h2, h3, h4⟩ := run_append_keep (P := P) (c2 := c2) t o.type ht hinfo hzs hsz hown hl hsrc h1 hbytes hby hbase
  refine gives_val (u := .slice a' (n + m) c') (w' := w') ?_ (h a' c' w' h2 h3 h4)
  unfold execOp
  simp only [ho, resolve, invoke, builtin, Sem.run_bind, Sem.run_pure, Result.andThen_ok, List.map_toArray, List.map_cons, List.map_nil, hs, hx, hr]

end Go.Proofs.Ytklbjnphfpjgeaa
namespace Go.Proofs.Ytklbjnphfpjgeaa
open Go.RowKit

/-- A program whose lists are short. -/
structure Few (p : Pg) (k : Nat) : Prop where
  s : p.sems.length ≤ k
  g : p.groups.length ≤ k
  b : p.barriers.length ≤ k
  r : p.rooms.length ≤ k
  t : p.threads.length ≤ k
  i : ∀ t ∈ p.threads, t.length ≤ 8
theorem Few.mono {p : Pg} {k m : Nat} (h : Few p k) (hm : k ≤ m) : Few p m := ⟨Nat.le_trans h.s hm, Nat.le_trans h.g hm, Nat.le_trans h.b hm, Nat.le_trans h.r hm, Nat.le_trans h.t hm, h.i⟩
theorem ShortP.few {p : Pg} {k : Nat} (h : ShortP p k) (hk : k ≤ 9) : Few p 9 := ⟨by have := h.s; omega, by have := h.g; omega, by have := h.b; omega, by have := h.r; omega, by have := h.t; omega, h.i⟩
theorem few_zero : Few zeroPg 9 := ⟨by simp [zeroPg], by simp [zeroPg], by simp [zeroPg], by simp [zeroPg], by simp [zeroPg], by simp [zeroPg]⟩
theorem few_parse (s : ByteArray) : Few ((parseProg s).getD zeroPg) 9 := by
  unfold parseProg
  split
  · split
    · exact (linesTo_small _ _).few (Nat.min_le_right _ _)
    · exact few_zero
  · exact few_zero
theorem Few.small' {w : World} {v : PV} {p : Pg} {k : Nat} (h : RdP w v p) (hf : Few p k) (hk : k ≤ 1000) : Small v p := by
  refine ⟨by have := h.ls; have := hf.s; omega, by have := h.lg; have := hf.g; omega, by have := h.lb; have := hf.b; omega, by have := h.lr; have := hf.r; omega, by have := h.lt; have := hf.t; omega, fun i => ?_⟩
  rw [List.getD_eq_getElem?_getD]
  cases hi : p.threads[i]? with
  | none => simp
  | some t =>
    have := hf.i t (List.mem_of_getElem? hi)
    simp only [Option.getD_some]
    omega
theorem Few.small {w : World} {v : PV} {vs : List Value} {p : Pg} {k : Nat} (hf : Few p k) (h : OwnP w v vs p.cells) (hk : k ≤ 1000) : Small v p := Few.small' h.rd hf hk

theorem Few.addS {p : Pg} {k : Nat} (h : Few p k) (y : Int) : Few { p with sems := p.sems ++ [y] } (k + 1) := ⟨by have := h.s; simp; omega, by have := h.g; show p.groups.length ≤ _; omega, by have := h.b; show p.barriers.length ≤ _; omega, by have := h.r; show p.rooms.length ≤ _; omega, by have := h.t; show p.threads.length ≤ _; omega, h.i⟩
theorem Few.addR {p : Pg} {k : Nat} (h : Few p k) (y : Int) : Few { p with rooms := p.rooms ++ [y] } (k + 1) := ⟨by have := h.s; show p.sems.length ≤ _; omega, by have := h.g; show p.groups.length ≤ _; omega, by have := h.b; show p.barriers.length ≤ _; omega, by have := h.r; simp; omega, by have := h.t; show p.threads.length ≤ _; omega, h.i⟩
theorem Few.addT {p : Pg} {k : Nat} (h : Few p k) (t : List OpD) (ht : t.length ≤ 8) : Few { p with threads := p.threads ++ [t] } (k + 1) := ⟨by have := h.s; show p.sems.length ≤ _; omega, by have := h.g; show p.groups.length ≤ _; omega, by have := h.b; show p.barriers.length ≤ _; omega, by have := h.r; show p.rooms.length ≤ _; omega, by have := h.t; simp; omega, fun u hu => by
  rcases List.mem_append.1 hu with hu | hu
  · exact h.i u hu
  · obtain rfl := List.mem_singleton.1 hu; exact ht⟩
theorem Few.noT {p : Pg} {k : Nat} (h : Few p k) : Few { p with threads := [] } (k + 1) := ⟨by have := h.s; show p.sems.length ≤ _; omega, by have := h.g; show p.groups.length ≤ _; omega, by have := h.b; show p.barriers.length ≤ _; omega, by have := h.r; show p.rooms.length ≤ _; omega, by simp, by simp⟩

theorem owns_base {w : World} {B B' : Nat} {e : TypeId} {sz n c : Nat} {a : Option Addr} {cs : List Value} (h : w.ownsRow B' e sz (.slice a n c) n cs) (hB : ∀ k, rowOf a = some k → B ≤ k) : w.ownsRow B e sz (.slice a n c) n cs := by
  refine ⟨h.1, ?_⟩
  rcases h.2 with h' | ⟨g, cap, cur, h', hb, rest⟩
  · exact .inl h'
  · refine .inr ⟨g, cap, cur, h', ?_, rest⟩
    simp only [Value.slice.injEq, true_and] at h'
    exact hB g (by rw [h'.1]; rfl)

theorem CopyAt.of_own {w : World} {B G : Nat} {v : PV} {vs : List Value} {p : Pg} (hb : Blk w G #[.slice v.s v.ns v.cs, .slice v.g v.ng v.cg, .slice v.b v.nb v.cb, .slice v.r v.nr v.cr, .slice v.t v.nt v.ct] 56) (h : OwnP w v vs p.cells) (hf : ∀ k ∈ fpP v vs, B ≤ k) (hn : (fpV vs).Nodup) : CopyAt w B G v vs p p.threads.length := by
  refine ⟨hb, owns_base h.os fun k hk => hf k (by unfold fpP; simp [hk]), owns_base h.og fun k hk => hf k (by unfold fpP; simp [hk]), owns_base h.ob fun k hk => hf k (by unfold fpP; simp [hk]), owns_base h.orr fun k hk => hf k (by unfold fpP; simp [hk]), owns_base h.ot.out fun k hk => hf k (by unfold fpP fpT; simp [hk]), ?_, hn, fun q hq => hf q (by unfold fpP; rw [fpT_eq]; simp [hq])⟩
  rw [List.take_length]
  exact h.ot.inner

/-- 'append' onto an owned row: an empty one without room is left alone. -/
theorem run_append_apart {P : Program} {w : World} (t ty : TypeId) {B : Nat} {e : TypeId} {z : Value} {size bytes : Nat} (ht : P.underlying t = some (.slice e)) (hinfo : (P.info? e).map (fun i => (i.zero, i.size, i.bytes)) = some (some z, size, bytes))
    (hzs : z.cells.size = size) (hsz : 0 < size) {a : Option Addr} {n c : Nat} {xs : List Value} (hown : w.ownsRow B e size (.slice a n c) n xs) (hz : n = 0 → c = 0)
    {a2 : Option Addr} {m c2 : Nat} {news : List Value} (hl : news.length = m * size) (hsrc : Rd w a2 news) (h1 : ∀ u ∈ news, u.oneCell' = true) (hbytes : (n + m) * bytes ≤ 140737488355328) (hby : 0 < bytes) (hbase : B ≤ w.heap.size) :
    ∃ a' c' w', (Builtin.append_ #[t, t] ty #[.slice a n c, .slice a2 m c2]).run P w = .ok (.slice a' (n + m) c') w' ∧ w'.ownsRow B e size (.slice a' (n + m) c') (n + m) (xs ++ news) ∧ w.grownBy w' (slBk n (.slice a n c)) := by
  by_cases hn : n = 0
  · subst hn
    obtain rfl := hz rfl
    obtain rfl : xs = [] := List.eq_nil_of_length_eq_zero (by have := hown.1; simpa using this)
    obtain ⟨a', c', w', hr, h2, h3, h4, h5⟩ := run_append_new (P := P) (c2 := c2) t ty ht hinfo hzs hsz hown hl hsrc h1 (by simpa using hbytes) hby hbase
    rw [Nat.zero_add]
    refine ⟨a', c', w', hr, by simpa using h2, grown_below h3⟩
  · obtain ⟨a', c', w', hr, h2, h3, _⟩ := run_append_keep (P := P) (c2 := c2) t ty ht hinfo hzs hsz hown hl hsrc h1 hbytes hby hbase
    exact ⟨a', c', w', hr, h2, by rw [slBk, if_neg hn, ownBlock_slice]; exact h3⟩

theorem wp_append_apart {P : Program} {wr : World} {o : Oper} {ac : Act} {K : Act → World → Prop} {Q : Exit → Act → World → Prop} (s x : Operand) (t : TypeId)
    (ho : o.op = .call { callee := .builtin .append, args := #[s, x], argTypes := #[t, t] })
    {B : Nat} {e : TypeId} {z : Value} {size bytes : Nat} (ht : P.underlying t = some (.slice e)) (hinfo : (P.info? e).map (fun i => (i.zero, i.size, i.bytes)) = some (some z, size, bytes))
    (hzs : z.cells.size = size) (hsz : 0 < size)
    {a : Option Addr} {n c : Nat} {xs : List Value} (hs : ac.eval s = .slice a n c) (hown : wr.ownsRow B e size (.slice a n c) n xs) (hz : n = 0 → c = 0)
    {a2 : Option Addr} {m c2 : Nat} {news : List Value} (hx : ac.eval x = .slice a2 m c2) (hl : news.length = m * size) (hsrc : Rd wr a2 news) (h1 : ∀ u ∈ news, u.oneCell' = true)
    (hbytes : (n + m) * bytes ≤ 140737488355328) (hby : 0 < bytes) (hbase : B ≤ wr.heap.size)
    (h : ∀ a' c' w', w'.ownsRow B e size (.slice a' (n + m) c') (n + m) (xs ++ news) → wr.grownBy w' (slBk n (.slice a n c)) → K (ac.put o.dst (.slice a' (n + m) c')) w') : o.wp P ac wr K Q := by
  obtain ⟨a', c', w', hr, h2, h3⟩ := run_append_apart (P := P) (c2 := c2) t o.type ht hinfo hzs hsz hown hz hl hsrc h1 hbytes hby hbase
  unfold Oper.wp execOp
  simp only [ho, resolve, invoke, builtin, Sem.run_bind, Sem.run_pure, Result.andThen_ok, List.map_toArray, List.map_cons, List.map_nil, hs, hx, hr]
  exact h a' c' w' h2 h3

theorem step_append_apart {P : Program} {wr : World} {ops : Array Oper} {o : Oper} {ac : Act} {K : Act → World → Prop} {Q : Exit → Act → World → Prop} {E : Prop} (hgd : o.guard = none) (s x : Operand) (t : TypeId)
    (ho : o.op = .call { callee := .builtin .append, args := #[s, x], argTypes := #[t, t] })
    {B : Nat} {e : TypeId} {z : Value} {size bytes : Nat} (ht : P.underlying t = some (.slice e)) (hinfo : (P.info? e).map (fun i => (i.zero, i.size, i.bytes)) = some (some z, size, bytes))
    (hzs : z.cells.size = size) (hsz : 0 < size)
    {a : Option Addr} {n c : Nat} {xs : List Value} (hs : ac.eval s = .slice a n c) (hown : wr.ownsRow B e size (.slice a n c) n xs) (hz : n = 0 → c = 0)
    {a2 : Option Addr} {m c2 : Nat} {news : List Value} (hx : ac.eval x = .slice a2 m c2) (hl : news.length = m * size) (hsrc : Rd wr a2 news) (h1 : ∀ u ∈ news, u.oneCell' = true)
    (hbytes : (n + m) * bytes ≤ 140737488355328) (hby : 0 < bytes) (hbase : B ≤ wr.heap.size)
    (h : ∀ a' c' w', w'.ownsRow B e size (.slice a' (n + m) c') (n + m) (xs ++ news) → wr.grownBy w' (slBk n (.slice a n c)) → K (ac.put o.dst (.slice a' (n + m) c')) w') :
    if Region.wanted o (yielded ops ac.tmps) = true then Oper.wp P o ac wr K Q else E := by
  have hw : Region.wanted o (yielded ops ac.tmps) = true := by simp [Region.wanted, hgd]
  rw [if_pos hw]
  exact wp_append_apart s x t ho ht hinfo hzs hsz hs hown hz hx hl hsrc h1 hbytes hby hbase h

/-- num at a list whose block is known. -/
theorem num_blk (R : Nat) (a : Option Addr) (n c : Nat) (bs : List Int) (p : Int) (m : Nat) (xs : List Int) (W : World) (h : Rdr W R a n c bs p) (hp : p ≤ 1099511627776) (hl : xs.length = m) (hm : 1 ≤ m) (hm2 : m ≤ 1000) (g : Nat) (cs : Array Value) (hb : Blk W g cs 3) (hcs : cs = (ints xs).toArray) (hg : g ≠ R) :
    Calls Try.prog 34 #[.pointer (some ⟨R, 0, none⟩), .slice (some ⟨g, 0, none⟩) m m] W fun e w' =>
      ∃ v : Int, e = .returned (.int .i64 v) ∧ v ∈ xs ∧ Rdr w' R a n c bs (p + 1) ∧ W.grownBy w' (some R) := by
  subst hcs
  refine (num_any R a n c bs p g m m xs W h hp hl hm hm2 (by simpa using Rd.of_blk hb) hg).mono ?_
  rintro e w' ⟨v, rfl, hv, hr, hg, hs⟩
  exact ⟨v, rfl, hv, hr, hg⟩

theorem Touch.drew {S : List Nat} {w w' : World} (h : Touch S w w') : Touch S w w'.drew := ⟨h.os, h.tape, h.output, h.size, fun k hk hn => h.block k hk hn⟩
theorem Touch.alloc' {S : List Nat} {w w' : World} (h : Touch S w w') (o : Obj) : Touch S w (w'.alloc o) := h.trans (Touch.of_below ((Below.refl _ _).alloc (Nat.le_refl _) _))
theorem Touch.blk {S : List Nat} {w w' : World} {b : Nat} {cs : Array Value} {t : TypeId} (h : Touch S w w') (hb : Blk w b cs t) (hn : b ∉ S) : Blk w' b cs t := (h.block b hb.lt hn).trans hb

/-- A row with something in it lies apart from one without room. -/
theorem far_zero {w : World} {B B' : Nat} {e e' : TypeId} {sz sz' n c : Nat} {a a' : Option Addr} {cs cs' : List Value} (h : w.ownsRow B e sz (.slice a n c) n cs) (hn : n ≠ 0) (hsz : 0 < sz) (h' : w.ownsRow B' e' sz' (.slice a' 0 0) 0 cs') : ∀ q, rowOf a = some q → rowOf a' = some q → False := by
  intro q h1 h2
  obtain ⟨g, rfl, -, -⟩ := owns_at h (by omega)
  obtain rfl : g = q := by simpa [rowOf] using h1
  obtain ⟨cur, e1, e2⟩ := owns_cells h
  have hc := (owns_cap h).1
  rcases h'.2 with ⟨h0, _⟩ | ⟨g', cap', cur', h0, hb, hg, h3, h4, h5, h6⟩
  · simp only [Value.slice.injEq] at h0
    rw [h0.1] at h2; cases h2
  · simp only [Value.slice.injEq, true_and] at h0
    obtain ⟨rfl, rfl⟩ := h0
    obtain rfl : g' = g := by simpa [rowOf] using h2
    rw [e1] at hg
    have e3 : cur = cur' := by simpa using congrArg (fun x => match x with | some (Obj.cells c _ _) => c | _ => #[]) hg
    rw [e3, h5, Nat.zero_mul] at e2
    have := Nat.mul_pos (show 0 < c by omega) hsz
    omega

theorem far_sl {w : World} {B B' : Nat} {n c n' c' : Nat} {a a' : Option Addr} {cs cs' : List Value} (h : w.ownsRow B 3 1 (.slice a n c) n cs) (h' : w.ownsRow B' 3 1 (.slice a' n' c') n' cs') (hz : n' = 0 → c' = 0)
    (hf : ∀ k, slBk n (.slice a n c) = some k → slBk n' (.slice a' n' c') ≠ some k) : ∀ q, rowOf a' = some q → slBk n (.slice a n c) = some q → False := by
  intro q h1 h2
  have hn : n ≠ 0 := fun e => by rw [slBk, if_pos e] at h2; cases h2
  by_cases h0 : n' = 0
  · subst h0
    obtain rfl := hz rfl
    rw [slBk, if_neg hn, ownBlock_slice] at h2
    exact far_zero h hn (by decide) h' q h2 h1
  · exact hf q h2 (by rw [slBk, if_neg h0, ownBlock_slice]; exact h1)

theorem slBk_row {n c : Nat} {a : Option Addr} {q : Nat} (h : slBk n (.slice a n c) = some q) : rowOf a = some q := by
  by_cases hn : n = 0
  · rw [slBk, if_pos hn] at h; cases h
  · rw [slBk, if_neg hn, ownBlock_slice] at h; exact h

theorem CopyAt.pushS {w w' : World} {B G : Nat} {v : PV} {vs : List Value} {p : Pg} {k : Nat} (h : CopyAt w B G v vs p k) (f : Four v) {a : Option Addr} {n c : Nat} {l : List Int} (ho : w'.ownsRow B 3 1 (.slice a n c) n (ints l)) (hg : w.grownBy w' (slBk v.ns (.slice v.s v.ns v.cs))) :
    CopyAt (w'.setCell ⟨G, 0, none⟩ (.slice a n c)) B G { v with s := a, ns := n, cs := c } vs { p with sems := l } k := by
  obtain ⟨t1, t2, t3, t4, t5, t6⟩ := types_ne
  have b1 := h.blk.grown hg (fun e => blk_owns h.blk h.os t3 (slBk_row e))
  have s1 := owns_grown h.og hg (far_sl h.os h.og f.zg f.sg)
  have s2 := owns_grown h.ob hg (far_sl h.os h.ob f.zb f.sb)
  have s3 := owns_grown h.orr hg (far_sl h.os h.orr f.zr f.sr)
  have s4 := owns_grown h.ot hg (fun q h1 h2 => owns_owns h.os h.ot t1 q (slBk_row h2) h1)
  have i1 := h.inn.grown hg (fun q h2 => h.inn.not_row h.os (fun e => t6 e.symm) q (slBk_row h2))
  have g2 := grown_set w' G 0 (.slice a n c)
  have far : ∀ {e : TypeId} {sz n' c' B' : Nat} {a' : Option Addr} {xs : List Value}, w'.ownsRow B' e sz (.slice a' n' c') n' xs → 56 ≠ e → ∀ q, rowOf a' = some q → some G = some q → False := by
    intro e sz n' c' B' a' xs ho' hne q hq e'
    cases e'
    exact blk_owns b1 ho' hne hq
  exact ⟨by simpa using b1.set 0 (.slice a n c), owns_grown ho g2 (far ho t3), owns_grown s1 g2 (far s1 t3), owns_grown s2 g2 (far s2 t3), owns_grown s3 g2 (far s3 t3), owns_grown s4 g2 (far s4 t4), i1.grown g2 (fun q hq => by cases hq; exact i1.not_blk b1 (fun e => t5 e.symm)), h.nd, h.lo⟩

theorem CopyAt.pushR {w w' : World} {B G : Nat} {v : PV} {vs : List Value} {p : Pg} {k : Nat} (h : CopyAt w B G v vs p k) (f : Four v) {a : Option Addr} {n c : Nat} {l : List Int} (ho : w'.ownsRow B 3 1 (.slice a n c) n (ints l)) (hg : w.grownBy w' (slBk v.nr (.slice v.r v.nr v.cr))) :
    CopyAt (w'.setCell ⟨G, 3, none⟩ (.slice a n c)) B G { v with r := a, nr := n, cr := c } vs { p with rooms := l } k := by
  obtain ⟨t1, t2, t3, t4, t5, t6⟩ := types_ne
  have b1 := h.blk.grown hg (fun e => blk_owns h.blk h.orr t3 (slBk_row e))
  have s1 := owns_grown h.og hg (far_sl h.orr h.og f.zg (fun k e1 e2 => f.gr k e2 e1))
  have s2 := owns_grown h.ob hg (far_sl h.orr h.ob f.zb (fun k e1 e2 => f.br k e2 e1))
  have s3 := owns_grown h.os hg (far_sl h.orr h.os f.zs (fun k e1 e2 => f.sr k e2 e1))
  have s4 := owns_grown h.ot hg (fun q h1 h2 => owns_owns h.orr h.ot t1 q (slBk_row h2) h1)
  have i1 := h.inn.grown hg (fun q h2 => h.inn.not_row h.orr (fun e => t6 e.symm) q (slBk_row h2))
  have g2 := grown_set w' G 3 (.slice a n c)
  have far : ∀ {e : TypeId} {sz n' c' B' : Nat} {a' : Option Addr} {xs : List Value}, w'.ownsRow B' e sz (.slice a' n' c') n' xs → 56 ≠ e → ∀ q, rowOf a' = some q → some G = some q → False := by
    intro e sz n' c' B' a' xs ho' hne q hq e'
    cases e'
    exact blk_owns b1 ho' hne hq
  exact ⟨by simpa using b1.set 3 (.slice a n c), owns_grown s3 g2 (far s3 t3), owns_grown s1 g2 (far s1 t3), owns_grown s2 g2 (far s2 t3), owns_grown ho g2 (far ho t3), owns_grown s4 g2 (far s4 t4), i1.grown g2 (fun q hq => by cases hq; exact i1.not_blk b1 (fun e => t5 e.symm)), h.nd, h.lo⟩

theorem CopyAt.noThr {w : World} {B G : Nat} {v : PV} {vs : List Value} {p : Pg} {k : Nat} (h : CopyAt w B G v vs p k) (hB : B ≤ w.heap.size) :
    CopyAt ((w.alloc (.cells #[] 62)).setCell ⟨G, 4, none⟩ (.slice (some ⟨w.heap.size, 0, none⟩) 0 0)) B G (v.thr (some ⟨w.heap.size, 0, none⟩) 0 0) [] { p with threads := [] } 0 := by
  obtain ⟨t1, t2, t3, t4, t5, t6⟩ := types_ne
  have hb : Below w.heap.size w (w.alloc (.cells #[] 62)) := (Below.refl _ _).alloc (Nat.le_refl _) _
  have h1 := h.below hb
  have ho := owns_mono (owns_empty w 62 1) hB
  have g2 := grown_set (w.alloc (.cells #[] 62)) G 4 (.slice (some ⟨w.heap.size, 0, none⟩) 0 0)
  have far : ∀ {e : TypeId} {sz n' c' B' : Nat} {a' : Option Addr} {xs : List Value}, (w.alloc (.cells #[] 62)).ownsRow B' e sz (.slice a' n' c') n' xs → 56 ≠ e → ∀ q, rowOf a' = some q → some G = some q → False := by
    intro e sz n' c' B' a' xs ho' hne q hq e'
    cases e'
    exact blk_owns h1.blk ho' hne hq
  exact ⟨by simpa [PV.thr] using h1.blk.set 4 (.slice (some ⟨w.heap.size, 0, none⟩) 0 0), owns_grown h1.os g2 (far h1.os t3), owns_grown h1.og g2 (far h1.og t3), owns_grown h1.ob g2 (far h1.ob t3), owns_grown h1.orr g2 (far h1.orr t3), owns_grown ho g2 (far ho t4), Inner.nil _, by simp [fpV], by simp [fpV]⟩

end Go.Proofs.Ytklbjnphfpjgeaa
namespace Go.Proofs.Ytklbjnphfpjgeaa
open Go.RowKit

end Go.Proofs.Ytklbjnphfpjgeaa
namespace Go.Proofs.Ytklbjnphfpjgeaa
open Go.RowKit

end Go.Proofs.Ytklbjnphfpjgeaa
namespace Go.Proofs.Ytklbjnphfpjgeaa
open Go.RowKit

end Go.Proofs.Ytklbjnphfpjgeaa
namespace Go.Proofs.Ytklbjnphfpjgeaa
open Go.RowKit

/-- The bytes of a draw. -/
structure Code13 (w : World) (a : Option Addr) (n c : Nat) (bs : List Int) : Prop where
  len : bs.length = n
  rd : Rd w a (bytesV bs)
  cap : n ≤ c
  byte : ∀ b ∈ bs, 0 ≤ b ∧ b ≤ 255
  few : n ≤ 1048576
theorem Code13.below {w w' : World} {a : Option Addr} {n c : Nat} {bs : List Int} (h : Code13 w a n c bs) (hb : Below w.heap.size w w') : Code13 w' a n c bs := ⟨h.len, h.rd.below hb, h.cap, h.byte, h.few⟩
theorem Code13.open {w : World} {a : Option Addr} {n c : Nat} {bs : List Int} (h : Code13 w a n c bs) :
    Calls Try.prog 27 #[.slice a n c] w fun e w' => e = .returned (.pointer (some ⟨w.heap.size, 0, none⟩)) ∧ ∃ n' bs', Rdr w' w.heap.size a n' c bs' 0 ∧ Below w.heap.size w w' ∧ w'.heap.size = w.heap.size + 1 :=
  open13_any a n c bs w h.len h.rd h.cap h.byte h.few
/-- A program of the call's own. -/
structure Own (w : World) (B : Nat) (v : PV) (vs : List Value) (p : Pg) (k : Nat) : Prop where
  own : OwnP w v vs p.cells
  lo : ∀ q ∈ fpP v vs, B ≤ q
  few : Few p k
theorem Own.below {w w' : World} {B : Nat} {v : PV} {vs : List Value} {p : Pg} {k : Nat} (h : Own w B v vs p k) (hb : Below w.heap.size w w') : Own w' B v vs p k := ⟨h.own.below hb, h.lo, h.few⟩
theorem Own.gr {w w' : World} {B i : Nat} {v : PV} {vs : List Value} {p : Pg} {k : Nat} (h : Own w B v vs p k) (hg : w.grownBy w' (some i)) (hi : i < B) : Own w' B v vs p k :=
  ⟨h.own.keep (fun k hk hl => hg.block k hl (fun e => by cases e; have := h.lo _ hk; omega)), h.lo, h.few⟩
theorem Own.mono {w : World} {B B' : Nat} {v : PV} {vs : List Value} {p : Pg} {k : Nat} (h : Own w B v vs p k) (hB : B' ≤ B) : Own w B' v vs p k := ⟨h.own, fun q hq => by have := h.lo q hq; omega, h.few⟩
theorem Own.small {w : World} {B : Nat} {v : PV} {vs : List Value} {p : Pg} {k : Nat} (h : Own w B v vs p k) (hk : k ≤ 1000) : Small v p := h.few.small h.own hk

end Go.Proofs.Ytklbjnphfpjgeaa
