/- Part of a proof: Rkb. -/
import Derived.Test.YtfpgijihiifogaaQRk
set_option maxRecDepth 100000
set_option maxHeartbeats 16000000
namespace Go.Proofs.Ytfpgijihiifogaa
open Go.RowKit
def nB (_ : Value) : Option Nat := none
def bkl (bks : List (Value → Option Nat)) (i : Nat) (v : Value) : Option Nat := (bks.getD i fun _ => none) v
theorem wp_rkb {P : Program} {id : Nat} {l : List Oper} (n : Nat) {a0 : Act} {w : World} {Q : Exit → Act → World → Prop} (bks : List (Value → Option Nat)) (rs : List Rl) (h1 : StK (fun w w' => Below w.heap.size w w') rs)
  (hs : StepsF P (l.take n) (rs.map Rl.P) (bkl bks) (fun w' => Below w.heap.size w w') a0.eval (l.take n) 0) (he : ∀ w', Below w.heap.size w w' → ForK w' (fun vs => Apart' (bkl bks) vs → wpList P l.toArray Q (l.drop n) (putAll (l.take n) a0 vs) w') rs (l.take n) []) (hm : P.follows .mixedOrders = true := by kernel_rfl) (hf : fits l n a0.tmps.size = true := by kernel_rfl) (hl : rs.length = n := by rfl) : (Code.region id l.toArray true).wp P Q a0 w :=
 wp_region_fresh n hm hf _ _ _ xB1.drew (stab_of h1.to) hs fun vs w' hG hlen hall hap _ => by
  have hn := (fits_early hf).2
  have := forK_of (Rs := rs.map Rl.P) rs (l.take n) [] vs (by simp [hl, hn]) (by simp [hlen, hn]) (early_take n (fits_early hf).1) (fun k => by simp) (by simpa using hall) (he w' hG)
  rw [List.nil_append] at this
  exact this hap
def rqB (B : Nat) (E : TypeId) (sz n : Nat) (cs : List Value) (ds : List Value) (u : Value) (W : World) : Prop := ∃ (a : Option Addr) (c : Nat), u = .slice a n c ∧ W.ownsRow B E sz (.slice a n c) n cs ∧ (n = 0 → u = ds.getD 0 undef)
theorem stB {B : Nat} {E : TypeId} {sz n : Nat} {cs : List Value} : ∀ ds u w w', Below w.heap.size w w' → rqB B E sz n cs ds u w → rqB B E sz n cs ds u w' := fun _ _ _ _ hb ⟨a, c, e, h, h0⟩ => ⟨a, c, e, owns_below h hb, h0⟩
theorem gkEb {P : Program} {o : Oper} {ρ : Operand → Value} {W w1 : World} {R : Value → World → Prop} {E : TypeId} {sz : Nat} (hG : Below W.heap.size W w1) (h : (execOp ρ o).run P w1 = .ok (.value (.slice (some ⟨w1.heap.size, 0, none⟩) 0 0)) (w1.alloc (.cells #[] E))) (hR : ∀ u w', rqE W.heap.size E sz [] u w' → R u w') (hd : o.dst.isSome = true := by rfl) : gives P o ρ w1 (fun u w' => Below w1.heap.size w1 w' ∧ R (kept o u) w' ∧ (∀ k, Value.ownBlock (kept o u) = some k → w1.heap.size ≤ k ∧ k < w'.heap.size) ∧ Below W.heap.size W w') :=
 gives_val h ⟨xA1, by rw [kept_some hd]; exact hR _ _ ⟨_, rfl, owns_mono (owns_empty w1 E sz) hG.size⟩, fun k hk => by
  rw [kept_some hd, ownBlock_slice] at hk
  have : w1.heap.size = k := by simpa [rowOf] using hk
  subst this
  simp, hG.alloc hG.size _⟩
theorem gkB {P : Program} {o : Oper} {ρ : Operand → Value} {W w1 : World} {R : Value → World → Prop} (hG : Below W.heap.size W w1) (s x : Operand) (t : TypeId) (ho : o.op = .call { callee := .builtin .append, args := #[s, x], argTypes := #[t, t] }) {e : TypeId} {z : Value} {size bytes : Nat} (ht : P.underlying t = some (.slice e)) (hinfo : (P.info? e).map (fun i => (i.zero, i.size, i.bytes)) = some (some z, size, bytes)) (hzs : z.cells.size = size) (hsz : 0 < size) (hs : rqE W.heap.size e size [] (ρ s) w1) {a2 : Option Addr} {m c2 : Nat} {news : List Value} (hx : ρ x = .slice a2 m c2) (hl : news.length = m * size) (hsrc : Rd w1 a2 news) (h1 : ∀ u ∈ news, u.oneCell' = true) (hbytes : m * bytes ≤ 140737488355328) (hby : 0 < bytes) (hR : ∀ u w', rqB W.heap.size e size m news [ρ s] u w' → R u w') (hd : o.dst.isSome = true := by rfl) : gives P o ρ w1 (fun u w' => Below w1.heap.size w1 w' ∧ R (kept o u) w' ∧ (∀ k, slBk m (kept o u) = some k → w1.heap.size ≤ k ∧ k < w'.heap.size) ∧ Below W.heap.size W w') := by
 obtain ⟨g, d, hg⟩ := hs
 by_cases hm : m = 0
 ·subst hm
  obtain rfl : news = [] := List.eq_nil_of_length_eq_zero (by simpa using hl)
  have hrun : (Builtin.append_ #[t, t] o.type #[.slice (some ⟨g, 0, none⟩) 0 0, .slice a2 0 c2]).run P w1 = .ok (.slice (some ⟨g, 0, none⟩) 0 0) w1 := by
   obtain ⟨i, hi, -, -, -⟩ := info_parts hinfo
   cases a2 with
   | none => exact run_append_owned_none' (P := P) (w := w1) W.heap.size t o.type e i size ht hi _ 0 [] hg c2
   | some ad => simp [Builtin.append_, run_underlying ht, sizeOf, typeInfo, hi, Builtin.lenOf, Builtin.firstCells, loadCells, loadCellsFrom, storeCells]
  refine gives_val (u := .slice (some ⟨g, 0, none⟩) 0 0) (w' := w1) ?_ ⟨Below.refl _ _, by rw [kept_some hd]; exact hR _ _ ⟨_, _, rfl, hg, fun _ => d.symm⟩, (fun k hk => by simp [slBk] at hk), hG⟩
  unfold execOp
  simp only [ho, resolve, invoke, builtin, Sem.run_bind, Sem.run_pure, Result.andThen_ok, List.map_toArray, List.map_cons, List.map_nil, d, hx, hrun]
 ·refine gives_append_new s x t ho ht hinfo hzs hsz d hg hx hl hsrc h1 hbytes hby hG.size ?_
  intro a c w2 hown hb hf h0
  exact ⟨hb, by rw [kept_some hd]; exact hR _ _ ⟨a, c, rfl, hown, fun h => absurd h hm⟩, by rw [kept_some hd]; exact slBk_new hown hf, hG.trans (hb.mono hG.size)⟩
theorem rkEb {p : Prop} (h : p := by exact gkEb hG (by go_simp) (fun _ _ h => h)) : p := h
theorem ap_rows {n m c d : Nat} {a b : Option Addr} {e f : Value} (hee : ∀ k, Value.ownBlock e = some k → Value.ownBlock f ≠ some k) (heu : ∀ k, Value.ownBlock e = some k → slBk m (.slice b m d) ≠ some k) (hue : ∀ k, slBk n (.slice a n c) = some k → Value.ownBlock f ≠ some k) (huu : ∀ k, slBk n (.slice a n c) = some k → slBk m (.slice b m d) ≠ some k) (h1 : n = 0 → Value.slice a n c = e) (h2 : m = 0 → Value.slice b m d = f) : ∀ q, rowOf a = some q → rowOf b ≠ some q := by
 intro q hq hq'
 have sl : ∀ {n c : Nat} {a : Option Addr}, n ≠ 0 → rowOf a = some q → slBk n (.slice a n c) = some q := fun h0 hq => by rw [slBk, if_neg h0, ownBlock_slice]; exact hq
 by_cases hn : n = 0
 ·have e1 : Value.ownBlock e = some q := by rw [← h1 hn, ownBlock_slice]; exact hq
  by_cases hm : m = 0
  ·exact hee q e1 (by rw [← h2 hm, ownBlock_slice]; exact hq')
  ·exact heu q e1 (sl hm hq')
 ·by_cases hm : m = 0
  ·exact hue q (sl hn hq) (by rw [← h2 hm, ownBlock_slice]; exact hq')
  ·exact huu q (sl hn hq) (sl hm hq')
theorem Fr.dis {w W : World} {l : List It} (F : Fr w W l) {k k' : Nat} (hne : k' ≠ k) {i i' : It} (hi : l[k]? = some i) (hi' : l[k']? = some i') : ∀ q ∈ i.foot, q ∉ i'.foot := by
 intro q hq hq'
 have h := (F.pull k hi).ap
 have hm : i' ∈ l.eraseIdx k := List.mem_eraseIdx_iff_getElem?.2 ⟨k', hne, hi'⟩
 exact (List.nodup_append.1 h).2.2 q hq q (List.mem_flatMap.2 ⟨i', hm, hq'⟩) rfl
theorem Fr.add {w W : World} {l : List It} (F : Fr w W l) {i : It} (hi : i.has w.heap.size W) (hd : ∀ q ∈ i.foot, q ∉ foots l) : Fr w W (i :: l) := by
 refine ⟨F.bel, fun j hj => ?_, ?_⟩
 ·rcases List.mem_cons.1 hj with rfl | hj
  ·exact hi
  ·exact F.has j hj
 ·show (i.foot ++ foots l).Nodup
  exact List.nodup_append.2 ⟨i.foot_nodup, F.ap, fun a ha b hb e => hd a ha (e ▸ hb)⟩
theorem Fr.rows3 {w W W' : World} {l : List It} (F : Fr w W l) (hG : Below W.heap.size W W') {a1 a2 a3 : Option Addr} {n1 n2 n3 c1 c2 c3 s1 s2 s3 : Nat} {E1 E2 E3 : TypeId} {x1 x2 x3 : List Value} (o1 : W'.ownsRow W.heap.size E1 s1 (.slice a1 n1 c1) n1 x1) (o2 : W'.ownsRow W.heap.size E2 s2 (.slice a2 n2 c2) n2 x2) (o3 : W'.ownsRow W.heap.size E3 s3 (.slice a3 n3 c3) n3 x3) (h12 : ∀ q, rowOf a1 = some q → rowOf a2 ≠ some q) (h13 : ∀ q, rowOf a1 = some q → rowOf a3 ≠ some q) (h23 : ∀ q, rowOf a2 = some q → rowOf a3 ≠ some q) : Fr w W' (.row a1 n1 c1 E1 s1 x1 :: .row a2 n2 c2 E2 s2 x2 :: .row a3 n3 c3 E3 s3 x3 :: l) := by
 have far : ∀ {a : Option Addr} {n c s : Nat} {E : TypeId} {x : List Value}, W'.ownsRow W.heap.size E s (.slice a n c) n x → ∀ q, rowOf a = some q → q ∉ foots l := fun ho q hq hm => by
  have h1 := (owns_row ho q hq).1
  have h2 := (F.inside q hm).2
  omega
 have hs := F.bel.size
 refine Fr.add (Fr.add (F.row hG o3) (i := .row a2 n2 c2 E2 s2 x2) (owns_mono o2 hs) fun q hq => ?_) (i := .row a1 n1 c1 E1 s1 x1) (owns_mono o1 hs) fun q hq => ?_
 ·have hq' : rowOf a2 = some q := by simpa [It.foot] using hq
  intro hm
  rcases xP1 (show q ∈ (rowOf a3).toList ++ foots l from hm) with hm | hm
  ·exact h23 q hq' (by simpa using hm)
  ·exact far o2 q hq' hm
 ·have hq' : rowOf a1 = some q := by simpa [It.foot] using hq
  intro hm
  rcases xP1 (show q ∈ (rowOf a2).toList ++ ((rowOf a3).toList ++ foots l) from hm) with hm | hm
  ·exact h12 q hq' (by simpa using hm)
  ·rcases xP1 hm with hm | hm
   ·exact h13 q hq' (by simpa using hm)
   ·exact far o1 q hq' hm
theorem wp_rst {P : Program} {id : Nat} {l : List Oper} (n i0 b : Nat) {a0 : Act} {w : World} {Q : Exit → Act → World → Prop} (rs : List Rl) (h1 : StK (fun w w' => Below w.heap.size w w') rs) (h2 : StT i0 (Touch [b]) 0 rs)
  (hs : Steps P (l.take n) (rs.map Rl.P) (St1 i0 (Touch [b])) (fun _ _ => none) (Stage i0 [b] w) a0.eval (l.take n) 0) (he : ∀ w', Touch [b] w w' → ForK w' (fun vs => wpList P l.toArray Q (l.drop n) (putAll (l.take n) a0 vs) w') rs (l.take n) []) (hm : P.follows .mixedOrders = true := by kernel_rfl) (hf : fits l n a0.tmps.size = true := by kernel_rfl) (hl : rs.length = n := by rfl) : (Code.region id l.toArray true).wp P Q a0 w :=
 wp_region_steps n hm hf _ _ _ _ (Stage.start _ _ _) (st1_size fun _ _ h => h.size) (stab1_of h1.to h2.to) hs fun vs w' _ hG hlen hall _ _ => by
  have hn := (fits_early hf).2
  have := forK_of (Rs := rs.map Rl.P) rs (l.take n) [] vs (by simp [hl, hn]) (by simp [hlen, hn]) (early_take n (fits_early hf).1) (fun k => by simp) (by simpa using hall) (he w' hG.2)
  simpa using this
def rqI (B : Nat) (E : TypeId) (k : Nat) (cs : Array Value) (_ : List Value) (u : Value) (W : World) : Prop := ∃ g : Nat, u = .slice (some ⟨g, 0, none⟩) k k ∧ Blk W g cs E ∧ B ≤ g
theorem stI {B : Nat} {E : TypeId} {k : Nat} {cs : Array Value} : ∀ ds u w w', Below w.heap.size w w' → rqI B E k cs ds u w → rqI B E k cs ds u w' := fun _ _ _ _ hb ⟨g, e, h, hs⟩ => ⟨g, e, h.below hb, hs⟩
theorem stIT {B : Nat} {E : TypeId} {k b : Nat} {cs : Array Value} (hb : b < B) : ∀ ds u w w', Touch [b] w w' → rqI B E k cs ds u w → rqI B E k cs ds u w' := fun _ _ _ _ hT ⟨g, e, h, hs⟩ => ⟨g, e, hT.blk h (by simp; omega), hs⟩
def rqK (b : Nat) (T : TypeId) (cs : Array Value) (_ : List Value) (_ : Value) (W : World) : Prop := Blk W b cs T
theorem stKb {b : Nat} {T : TypeId} {cs : Array Value} : ∀ ds u w w', Below w.heap.size w w' → rqK b T cs ds u w → rqK b T cs ds u w' := fun _ _ _ _ hb h => Blk.below h hb
section
variable {P : Program} {o : Oper} {ρ : Operand → Value} {W w1 : World} {V : Value} {R : Value → World → Prop} {b i i0 : Nat} {L : Nat → Bool}
theorem gsK (hG : Stage i0 [b] W L w1) (h : (execOp ρ o).run P w1 = .ok (.value V) w1) (hd : o.dst.isSome = true := by rfl) (hi : i ≠ i0 := by decide) : gives P o ρ w1 (fun u w' => St1 i0 (Touch [b]) i w1 w' ∧ kept o u = V ∧ (∀ k, none = some k → w1.heap.size ≤ k ∧ k < w'.heap.size) ∧ Stage i0 [b] W (fun j => decide (j = i) || L j) w') :=
 gives_val h ⟨st1_below hi xB1, kept_some hd, xN1, hG.step hi xB1⟩
theorem gsI {k : Nat} {cs : Array Value} {E : TypeId} (hG : Stage i0 [b] W L w1) (h : (execOp ρ o).run P w1 = .ok (.value (.slice (some ⟨w1.heap.size, 0, none⟩) k k)) (w1.alloc (.cells cs E))) (hR : ∀ u w', rqI W.heap.size E k cs [] u w' → R u w') (hd : o.dst.isSome = true := by rfl) (hi : i ≠ i0 := by decide) : gives P o ρ w1 (fun u w' => St1 i0 (Touch [b]) i w1 w' ∧ R (kept o u) w' ∧ (∀ k, none = some k → w1.heap.size ≤ k ∧ k < w'.heap.size) ∧ Stage i0 [b] W (fun j => decide (j = i) || L j) w') :=
 gives_val h ⟨st1_below hi (xA1), by rw [kept_some hd]; exact hR _ _ ⟨_, rfl, Blk.new _ _ _, hG.2.size⟩, xN1, hG.step hi (xA1)⟩
theorem gsS {x y : Operand} {T : TypeId} {old cs : Array Value} (ho : o.op = .store T x y) (hG : Stage i [b] W L w1) (hL : L i = false) (kb : Blk W b old T) (hx : ρ x = .pointer (some ⟨b, 0, none⟩)) (hy : ρ y = .agg cs) (hs : cs.size = old.size) (h1 : cs.toList.all (·.oneCell') = true) (hT : (P.info? T).map (·.size) = some cs.size) (hR : ∀ u w', rqK b T cs [] u w' → R u w') : gives P o ρ w1 (fun u w' => St1 i (Touch [b]) i w1 w' ∧ R (kept o u) w' ∧ (∀ k, none = some k → w1.heap.size ≤ k ∧ k < w'.heap.size) ∧ Stage i [b] W (fun j => decide (j = i) || L j) w') := by
 have kb1 := kb.below (hG.1 hL)
 have hst : Touch [b] w1 (w1.setRow b cs) := ⟨rfl, rfl, rfl, by simp, fun k _ hn => setRow_other _ _ _ _ fun e => hn (by simp [e])⟩
 refine gives_skip (w' := w1.setRow b cs) ?_ ⟨st1_own hst, hR _ _ (setRow_heap _ _ _ _ _ _ kb1), xN1, hG.own hst⟩
 simp [execOp, ho, hx, hy, Instr.storeAt, Instr.sureAddr, run_storeVar_row w1 b T T old cs kb1 hT (by omega) (Array.all_toList.symm.trans h1)]
end
theorem stET {B b : Nat} {E : TypeId} {sz : Nat} (hb : b < B) : ∀ ds u w w', Touch [b] w w' → rqE B E sz ds u w → rqE B E sz ds u w' := fun _ _ _ _ hT ⟨g, e, h⟩ => ⟨g, e, owns_touch h hT fun q hq hm => by have := (owns_row h q hq).1; have := xS1 hm; omega⟩
theorem stAT {B b : Nat} {E : TypeId} {sz n : Nat} {cs : List Value} (hb : b < B) : ∀ ds u w w', Touch [b] w w' → rqA B E sz n cs ds u w → rqA B E sz n cs ds u w' := fun _ _ _ _ hT ⟨a, c, e, h, h0⟩ => ⟨a, c, e, owns_touch h hT fun q hq hm => by have := (owns_row h q hq).1; have := xS1 hm; omega, h0⟩
theorem gsE {P : Program} {o : Oper} {ρ : Operand → Value} {W w1 : World} {R : Value → World → Prop} {b i i0 : Nat} {L : Nat → Bool} {E : TypeId} {sz : Nat} (hG : Stage i0 [b] W L w1) (h : (execOp ρ o).run P w1 = .ok (.value (.slice (some ⟨w1.heap.size, 0, none⟩) 0 0)) (w1.alloc (.cells #[] E))) (hR : ∀ u w', rqE W.heap.size E sz [] u w' → R u w') (hd : o.dst.isSome = true := by rfl) (hi : i ≠ i0 := by decide) : gives P o ρ w1 (fun u w' => St1 i0 (Touch [b]) i w1 w' ∧ R (kept o u) w' ∧ (∀ k, none = some k → w1.heap.size ≤ k ∧ k < w'.heap.size) ∧ Stage i0 [b] W (fun j => decide (j = i) || L j) w') :=
 gives_val h ⟨st1_below hi (xA1), by rw [kept_some hd]; exact hR _ _ ⟨_, rfl, owns_mono (owns_empty w1 E sz) hG.2.size⟩, xN1, hG.step hi (xA1)⟩
theorem gsA {P : Program} {o : Oper} {ρ : Operand → Value} {W w1 : World} {R : Value → World → Prop} {b i i0 : Nat} {L : Nat → Bool} (hG : Stage i0 [b] W L w1) (s x : Operand) (t : TypeId) (ho : o.op = .call { callee := .builtin .append, args := #[s, x], argTypes := #[t, t] }) {e : TypeId} {z : Value} {size bytes : Nat} (ht : P.underlying t = some (.slice e)) (hinfo : (P.info? e).map (fun i => (i.zero, i.size, i.bytes)) = some (some z, size, bytes)) (hzs : z.cells.size = size) (hsz : 0 < size) (hs : rqE W.heap.size e size [] (ρ s) w1) {a2 : Option Addr} {m c2 : Nat} {news : List Value} (hx : ρ x = .slice a2 m c2) (hl : news.length = m * size) (hsrc : Rd w1 a2 news) (h1 : ∀ u ∈ news, u.oneCell' = true) (hbytes : m * bytes ≤ 140737488355328) (hby : 0 < bytes) (hR : ∀ u w', rqA W.heap.size e size m news [] u w' → R u w') (hd : o.dst.isSome = true := by rfl) (hi : i ≠ i0 := by decide) : gives P o ρ w1 (fun u w' => St1 i0 (Touch [b]) i w1 w' ∧ R (kept o u) w' ∧ (∀ k, none = some k → w1.heap.size ≤ k ∧ k < w'.heap.size) ∧ Stage i0 [b] W (fun j => decide (j = i) || L j) w') := by
 obtain ⟨g, d, hg⟩ := hs
 refine gives_append_new s x t ho ht hinfo hzs hsz d hg hx hl hsrc h1 hbytes hby hG.2.size ?_
 intro a c w2 hown hb hf h0
 exact ⟨st1_below hi hb, by rw [kept_some hd]; exact hR _ _ ⟨a, c, rfl, hown, h0⟩, xN1, hG.step hi hb⟩
theorem rsE {p : Prop} (h : p := by exact gsE hG (by go_simp) (fun _ _ h => h)) : p := h
theorem rs0 {p : Prop} (h : p := by (exact gsK hG (by go_simp <;> rfl))) : p := h
theorem rs1 {p : Prop} (h : p := by (have d : ρ (.tmp _) = _ := hd.1; exact gsK hG (by go_simp <;> rfl))) : p := h
theorem rsI {p : Prop} (h : p := by (have d : ρ (.tmp _) = _ := hd.1; exact gsI hG (by go_simp <;> rfl) (fun _ _ h => h))) : p := h
theorem Fr.over {w W W' : World} {l : List It} (k : Nat) {b : Nat} {old cs : Array Value} {T : TypeId} (F : Fr w W l) (hi : l[k]? = some (.blk b old T)) (hT : Touch [b] W W') (h : Blk W' b cs T) : Fr w W' (l.set k (.blk b cs T)) :=
 F.step k hi hT ⟨(F.has _ (List.mem_of_getElem? hi)).1, h⟩ fun _ hq => .inl hq
theorem Rd.int0 {w : World} {b o : Nat} {x : Int} {xs : List Int} (h : Rd w (some ⟨b, o, none⟩) (ints (x :: xs))) : w.cell? ⟨b, o, none⟩ = some (.int .i64 x) := by
 obtain ⟨b', o', e, hc⟩ := h.int (by simp)
 cases e
 simpa using hc 0 (by simp)
end Go.Proofs.Ytfpgijihiifogaa
