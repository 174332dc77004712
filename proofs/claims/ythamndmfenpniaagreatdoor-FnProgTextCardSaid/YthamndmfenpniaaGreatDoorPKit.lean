/- A program's lists by index, in memory: what the program's ParseProg puts. -/
import Derived.Test.YthamndmfenpniaaGreatDoorPLine
namespace Go.Proofs.YthamndmfenpniaaGreatDoor
open Go.RowKit

def PV.fa (v : PV) : Nat → Option Addr
  | 0 => v.s
  | 1 => v.g
  | 2 => v.b
  | _ => v.r
def PV.fn (v : PV) : Nat → Nat
  | 0 => v.ns
  | 1 => v.ng
  | 2 => v.nb
  | _ => v.nr
def PV.fc (v : PV) : Nat → Nat
  | 0 => v.cs
  | 1 => v.cg
  | 2 => v.cb
  | _ => v.cr
def PV.put (v : PV) : Nat → Option Addr → Nat → Nat → PV
  | 0, a, n, c => { v with s := a, ns := n, cs := c }
  | 1, a, n, c => { v with g := a, ng := n, cg := c }
  | 2, a, n, c => { v with b := a, nb := n, cb := c }
  | _, a, n, c => { v with r := a, nr := n, cr := c }
theorem putL_threads (p : Pg) (k : Nat) (l : List Int) : (putL p k l).threads = p.threads := by
  match k with
  | 0 => rfl
  | 1 => rfl
  | 2 => rfl
  | n + 3 => rfl
theorem lstT_putL (p : Pg) (k : Nat) (l : List Int) : lstT (putL p k l) k = l := by
  match k with
  | 0 => rfl
  | 1 => rfl
  | 2 => rfl
  | n + 3 => rfl
theorem putL_putL (p : Pg) (k : Nat) (l m : List Int) : putL (putL p k l) k m = putL p k m := by
  match k with
  | 0 => rfl
  | 1 => rfl
  | 2 => rfl
  | n + 3 => rfl
theorem putL_same (p : Pg) (k : Nat) : putL p k (lstT p k) = p := by
  match k with
  | 0 => rfl
  | 1 => rfl
  | 2 => rfl
  | n + 3 => rfl
theorem CopyAt.fld {w : World} {B G : Nat} {v : PV} {vs : List Value} {p : Pg} {j : Nat} (h : CopyAt w B G v vs p j) (k : Nat) (h4 : k < 4) : w.cell? ⟨G, k, none⟩ = some (.slice (v.fa k) (v.fn k) (v.fc k)) ∧ w.ownsRow B 3 1 (.slice (v.fa k) (v.fn k) (v.fc k)) (v.fn k) (ints (lstT p k)) := by
  match k, h4 with
  | 0, _ => exact ⟨h.blk.cell 0 rfl, h.os⟩
  | 1, _ => exact ⟨h.blk.cell 1 rfl, h.og⟩
  | 2, _ => exact ⟨h.blk.cell 2 rfl, h.ob⟩
  | 3, _ => exact ⟨h.blk.cell 3 rfl, h.orr⟩
theorem FourF.none : FourF ⟨none, 0, 0, none, 0, 0, none, 0, 0, none, 0, 0, none, 0, 0⟩ := ⟨fun _ h => by simp [rowOf] at h, fun _ h => by simp [rowOf] at h, fun _ h => by simp [rowOf] at h, fun _ h => by simp [rowOf] at h, fun _ h => by simp [rowOf] at h, fun _ h => by simp [rowOf] at h⟩
theorem gives_append_hn {P : Program} {o : Oper} {ρ : Operand → Value} {w : World} {post : Value → World → Prop} (s x : Operand) (t : TypeId)
    (ho : o.op = .call { callee := .builtin .append, args := #[s, x], argTypes := #[t, t] }) {B : Nat} {e : TypeId} {z : Value} {size bytes : Nat} (ht : P.underlying t = some (.slice e)) (hinfo : (P.info? e).map (fun i => (i.zero, i.size, i.bytes)) = some (some z, size, bytes))
    (hzs : z.cells.size = size) (hsz : 0 < size) {a : Option Addr} {n c : Nat} {xs : List Value} (hs : ρ s = .slice a n c) (hown : w.ownsRow B e size (.slice a n c) n xs)
    {a2 : Option Addr} {m c2 : Nat} {news : List Value} (hx : ρ x = .slice a2 m c2) (hl : news.length = m * size) (hsrc : Rd w a2 news) (h1 : ∀ u ∈ news, u.oneCell' = true) (hbytes : (n + m) * bytes ≤ 140737488355328) (hby : 0 < bytes) (hbase : B ≤ w.heap.size)
    (h : ∀ a' c' w', w'.ownsRow B e size (.slice a' (n + m) c') (n + m) (xs ++ news) → w.grownBy w' (rowOf a) → (∀ k, rowOf a' = some k → rowOf a = some k ∨ w.heap.size ≤ k) → post (.slice a' (n + m) c') w') : gives P o ρ w post := by
  obtain ⟨a', c', w', hr, h2, h3, h4⟩ := run_append_hn (P := P) (c2 := c2) t o.type ht hinfo hzs hsz hown hl hsrc h1 hbytes hby hbase
  refine gives_val (u := .slice a' (n + m) c') (w' := w') ?_ (h a' c' w' h2 h3 h4)
  unfold execOp
  simp only [ho, resolve, invoke, builtin, Sem.run_bind, Sem.run_pure, Result.andThen_ok, List.map_toArray, List.map_cons, List.map_nil, hs, hx, hr]
theorem Inner.touch {S : List Nat} {w w' : World} {vs : List Value} {rows : List (List Value)} (h : Inner w vs rows) (ht : Touch S w w') (hd : ∀ k ∈ fpV vs, k ∉ S) : Inner w' vs rows := h.keep fun k hk hl => ht.block k hl (hd k hk)
theorem Touch.more {S S' : List Nat} {w a b : World} (h : Touch S w a) (k : Touch S' a b) (hs : ∀ q ∈ S', w.heap.size ≤ q) : Touch S w b :=
  ⟨k.os.trans h.os, k.tape.trans h.tape, k.output.trans h.output, Nat.le_trans h.size k.size, fun q hq hn => (k.block q (Nat.lt_of_lt_of_le hq h.size) (fun hm => by have := hs q hm; omega)).trans (h.block q hq hn)⟩
theorem lineTo_threads {q : Pg} {p0 : ByteArray} {nums : List ByteArray} : ∀ {k : Nat} {st : Pg × Bool}, lineTo q p0 nums k = some st → st.1.threads = q.threads
  | 0, st, h => by
    have h' : some (q, false) = some st := h
    obtain rfl := Option.some.inj h'
    rfl
  | k + 1, st, h => by
    have h' : (lineTo q p0 nums k).bind (fun st => if wordT k = p0 then (numsI nums).map fun l => (putL st.1 k (lstT st.1 k ++ l), true) else some st) = some st := h
    cases hd : lineTo q p0 nums k with
    | none => rw [hd] at h'; cases h'
    | some s1 =>
      rw [hd] at h'
      have ih := lineTo_threads hd
      simp only [Option.bind_some] at h'
      split at h'
      · cases hn : numsI nums with
        | none => rw [hn] at h'; cases h'
        | some l =>
          rw [hn] at h'
          obtain rfl := Option.some.inj h'
          rw [putL_threads]; exact ih
      · obtain rfl := Option.some.inj h'
        exact ih
theorem CopyAt.put0 {w w' : World} {B G : Nat} {v : PV} {vs : List Value} {p : Pg} {k : Nat} (h : CopyAt w B G v vs p k) (f : FourF v) {a : Option Addr} {n c : Nat} {l : List Int} (ho : w'.ownsRow B 3 1 (.slice a n c) n (ints l)) (ht : Touch (rowOf v.s).toList w w') :
    CopyAt (w'.setCell ⟨G, 0, none⟩ (.slice a n c)) B G { v with s := a, ns := n, cs := c } vs { p with sems := l } k := by
  obtain ⟨t1, t2, t3, t4, t5, t6⟩ := types_ne
  have b1 := ht.blk h.blk (fun e => blk_owns h.blk h.os t3 (by simpa using e))
  have s1 := owns_touch h.og ht (fun q h1 h2 => f.sg q (by simpa using h2) h1)
  have s2 := owns_touch h.ob ht (fun q h1 h2 => f.sb q (by simpa using h2) h1)
  have s3 := owns_touch h.orr ht (fun q h1 h2 => f.sr q (by simpa using h2) h1)
  have s4 := owns_touch h.ot ht (fun q h1 h2 => owns_owns h.os h.ot t1 q (by simpa using h2) h1)
  have i1 := h.inn.touch ht (fun q h1 h2 => h.inn.not_row h.os (fun e => t6 e.symm) q (by simpa using h2) h1)
  have g2 := grown_set w' G 0 (.slice a n c)
  have far : ∀ {e : TypeId} {sz n' c' B' : Nat} {a' : Option Addr} {xs : List Value}, w'.ownsRow B' e sz (.slice a' n' c') n' xs → 27 ≠ e → ∀ q, rowOf a' = some q → some G = some q → False := by
    intro e sz n' c' B' a' xs ho' hne q hq e'
    cases e'
    exact blk_owns b1 ho' hne hq
  exact ⟨by simpa using b1.set 0 (.slice a n c), owns_grown ho g2 (far ho t3), owns_grown s1 g2 (far s1 t3), owns_grown s2 g2 (far s2 t3), owns_grown s3 g2 (far s3 t3), owns_grown s4 g2 (far s4 t4), i1.grown g2 (fun q hq => by cases hq; exact i1.not_blk b1 (fun e => t5 e.symm)), h.nd, h.lo⟩
theorem CopyAt.put1 {w w' : World} {B G : Nat} {v : PV} {vs : List Value} {p : Pg} {k : Nat} (h : CopyAt w B G v vs p k) (f : FourF v) {a : Option Addr} {n c : Nat} {l : List Int} (ho : w'.ownsRow B 3 1 (.slice a n c) n (ints l)) (ht : Touch (rowOf v.g).toList w w') :
    CopyAt (w'.setCell ⟨G, 1, none⟩ (.slice a n c)) B G { v with g := a, ng := n, cg := c } vs { p with groups := l } k := by
  obtain ⟨t1, t2, t3, t4, t5, t6⟩ := types_ne
  have b1 := ht.blk h.blk (fun e => blk_owns h.blk h.og t3 (by simpa using e))
  have s0 := owns_touch h.os ht (fun q h1 h2 => f.sg q h1 (by simpa using h2))
  have s2 := owns_touch h.ob ht (fun q h1 h2 => f.gb q (by simpa using h2) h1)
  have s3 := owns_touch h.orr ht (fun q h1 h2 => f.gr q (by simpa using h2) h1)
  have s4 := owns_touch h.ot ht (fun q h1 h2 => owns_owns h.og h.ot t1 q (by simpa using h2) h1)
  have i1 := h.inn.touch ht (fun q h1 h2 => h.inn.not_row h.og (fun e => t6 e.symm) q (by simpa using h2) h1)
  have g2 := grown_set w' G 1 (.slice a n c)
  have far : ∀ {e : TypeId} {sz n' c' B' : Nat} {a' : Option Addr} {xs : List Value}, w'.ownsRow B' e sz (.slice a' n' c') n' xs → 27 ≠ e → ∀ q, rowOf a' = some q → some G = some q → False := by
    intro e sz n' c' B' a' xs ho' hne q hq e'
    cases e'
    exact blk_owns b1 ho' hne hq
  exact ⟨by simpa using b1.set 1 (.slice a n c), owns_grown s0 g2 (far s0 t3), owns_grown ho g2 (far ho t3), owns_grown s2 g2 (far s2 t3), owns_grown s3 g2 (far s3 t3), owns_grown s4 g2 (far s4 t4), i1.grown g2 (fun q hq => by cases hq; exact i1.not_blk b1 (fun e => t5 e.symm)), h.nd, h.lo⟩
theorem CopyAt.put2 {w w' : World} {B G : Nat} {v : PV} {vs : List Value} {p : Pg} {k : Nat} (h : CopyAt w B G v vs p k) (f : FourF v) {a : Option Addr} {n c : Nat} {l : List Int} (ho : w'.ownsRow B 3 1 (.slice a n c) n (ints l)) (ht : Touch (rowOf v.b).toList w w') :
    CopyAt (w'.setCell ⟨G, 2, none⟩ (.slice a n c)) B G { v with b := a, nb := n, cb := c } vs { p with barriers := l } k := by
  obtain ⟨t1, t2, t3, t4, t5, t6⟩ := types_ne
  have b1 := ht.blk h.blk (fun e => blk_owns h.blk h.ob t3 (by simpa using e))
  have s0 := owns_touch h.os ht (fun q h1 h2 => f.sb q h1 (by simpa using h2))
  have s1 := owns_touch h.og ht (fun q h1 h2 => f.gb q h1 (by simpa using h2))
  have s3 := owns_touch h.orr ht (fun q h1 h2 => f.br q (by simpa using h2) h1)
  have s4 := owns_touch h.ot ht (fun q h1 h2 => owns_owns h.ob h.ot t1 q (by simpa using h2) h1)
  have i1 := h.inn.touch ht (fun q h1 h2 => h.inn.not_row h.ob (fun e => t6 e.symm) q (by simpa using h2) h1)
  have g2 := grown_set w' G 2 (.slice a n c)
  have far : ∀ {e : TypeId} {sz n' c' B' : Nat} {a' : Option Addr} {xs : List Value}, w'.ownsRow B' e sz (.slice a' n' c') n' xs → 27 ≠ e → ∀ q, rowOf a' = some q → some G = some q → False := by
    intro e sz n' c' B' a' xs ho' hne q hq e'
    cases e'
    exact blk_owns b1 ho' hne hq
  exact ⟨by simpa using b1.set 2 (.slice a n c), owns_grown s0 g2 (far s0 t3), owns_grown s1 g2 (far s1 t3), owns_grown ho g2 (far ho t3), owns_grown s3 g2 (far s3 t3), owns_grown s4 g2 (far s4 t4), i1.grown g2 (fun q hq => by cases hq; exact i1.not_blk b1 (fun e => t5 e.symm)), h.nd, h.lo⟩
theorem CopyAt.put3 {w w' : World} {B G : Nat} {v : PV} {vs : List Value} {p : Pg} {k : Nat} (h : CopyAt w B G v vs p k) (f : FourF v) {a : Option Addr} {n c : Nat} {l : List Int} (ho : w'.ownsRow B 3 1 (.slice a n c) n (ints l)) (ht : Touch (rowOf v.r).toList w w') :
    CopyAt (w'.setCell ⟨G, 3, none⟩ (.slice a n c)) B G { v with r := a, nr := n, cr := c } vs { p with rooms := l } k := by
  obtain ⟨t1, t2, t3, t4, t5, t6⟩ := types_ne
  have b1 := ht.blk h.blk (fun e => blk_owns h.blk h.orr t3 (by simpa using e))
  have s0 := owns_touch h.os ht (fun q h1 h2 => f.sr q h1 (by simpa using h2))
  have s1 := owns_touch h.og ht (fun q h1 h2 => f.gr q h1 (by simpa using h2))
  have s2 := owns_touch h.ob ht (fun q h1 h2 => f.br q h1 (by simpa using h2))
  have s4 := owns_touch h.ot ht (fun q h1 h2 => owns_owns h.orr h.ot t1 q (by simpa using h2) h1)
  have i1 := h.inn.touch ht (fun q h1 h2 => h.inn.not_row h.orr (fun e => t6 e.symm) q (by simpa using h2) h1)
  have g2 := grown_set w' G 3 (.slice a n c)
  have far : ∀ {e : TypeId} {sz n' c' B' : Nat} {a' : Option Addr} {xs : List Value}, w'.ownsRow B' e sz (.slice a' n' c') n' xs → 27 ≠ e → ∀ q, rowOf a' = some q → some G = some q → False := by
    intro e sz n' c' B' a' xs ho' hne q hq e'
    cases e'
    exact blk_owns b1 ho' hne hq
  exact ⟨by simpa using b1.set 3 (.slice a n c), owns_grown s0 g2 (far s0 t3), owns_grown s1 g2 (far s1 t3), owns_grown s2 g2 (far s2 t3), owns_grown ho g2 (far ho t3), owns_grown s4 g2 (far s4 t4), i1.grown g2 (fun q hq => by cases hq; exact i1.not_blk b1 (fun e => t5 e.symm)), h.nd, h.lo⟩
theorem CopyAt.put {w w' : World} {B G : Nat} {v : PV} {vs : List Value} {p : Pg} {j : Nat} (h : CopyAt w B G v vs p j) (f : FourF v) (k : Nat) (h4 : k < 4) {a : Option Addr} {n c : Nat} {l : List Int} (ho : w'.ownsRow B 3 1 (.slice a n c) n (ints l)) (ht : Touch (rowOf (v.fa k)).toList w w') :
    CopyAt (w'.setCell ⟨G, k, none⟩ (.slice a n c)) B G (v.put k a n c) vs (putL p k l) j := by
  match k, h4 with
  | 0, _ => exact h.put0 f ho ht
  | 1, _ => exact h.put1 f ho ht
  | 2, _ => exact h.put2 f ho ht
  | 3, _ => exact h.put3 f ho ht
theorem FourF.put {w : World} {B G : Nat} {v : PV} {vs : List Value} {p : Pg} {j : Nat} (h : CopyAt w B G v vs p j) (f : FourF v) (k : Nat) (h4 : k < 4) {a : Option Addr} {n c : Nat} (hn : ∀ q, rowOf a = some q → rowOf (v.fa k) = some q ∨ w.heap.size ≤ q) : FourF (v.put k a n c) := by
  have ls := fun q hq => (owns_row h.os q hq).2
  have lg := fun q hq => (owns_row h.og q hq).2
  have lb := fun q hq => (owns_row h.ob q hq).2
  have lr := fun q hq => (owns_row h.orr q hq).2
  match k, h4 with
  | 0, _ => exact ⟨(fun q h1 h2 => by
      rcases hn q h1 with h3 | h3
      · exact f.sg q h3 h2
      · have := lg q h2; omega), (fun q h1 h2 => by
      rcases hn q h1 with h3 | h3
      · exact f.sb q h3 h2
      · have := lb q h2; omega), (fun q h1 h2 => by
      rcases hn q h1 with h3 | h3
      · exact f.sr q h3 h2
      · have := lr q h2; omega), f.gb, f.gr, f.br⟩
  | 1, _ => exact ⟨(fun q h1 h2 => by
      rcases hn q h2 with h3 | h3
      · exact f.sg q h1 h3
      · have := ls q h1; omega), f.sb, f.sr, (fun q h1 h2 => by
      rcases hn q h1 with h3 | h3
      · exact f.gb q h3 h2
      · have := lb q h2; omega), (fun q h1 h2 => by
      rcases hn q h1 with h3 | h3
      · exact f.gr q h3 h2
      · have := lr q h2; omega), f.br⟩
  | 2, _ => exact ⟨f.sg, (fun q h1 h2 => by
      rcases hn q h2 with h3 | h3
      · exact f.sb q h1 h3
      · have := ls q h1; omega), f.sr, (fun q h1 h2 => by
      rcases hn q h2 with h3 | h3
      · exact f.gb q h1 h3
      · have := lg q h1; omega), f.gr, (fun q h1 h2 => by
      rcases hn q h1 with h3 | h3
      · exact f.br q h3 h2
      · have := lr q h2; omega)⟩
  | 3, _ => exact ⟨f.sg, f.sb, (fun q h1 h2 => by
      rcases hn q h2 with h3 | h3
      · exact f.sr q h1 h3
      · have := ls q h1; omega), f.gb, (fun q h1 h2 => by
      rcases hn q h2 with h3 | h3
      · exact f.gr q h1 h3
      · have := lg q h1; omega), (fun q h1 h2 => by
      rcases hn q h2 with h3 | h3
      · exact f.br q h1 h3
      · have := lb q h1; omega)⟩
theorem CopyAt.smallM {w : World} {B G : Nat} {v : PV} {vs : List Value} {p : Pg} (h : CopyAt w B G v vs p p.threads.length) (hm : Most p 1048576) (ht : p.threads.length ≤ 1048576) (hi : ∀ k, (p.threads.getD k []).length ≤ 1048576) : Small v p := by
  have h1 := h.os.1
  have h2 := h.og.1
  have h3 := h.ob.1
  have h4 := h.orr.1
  have h5 := h.ot.1
  have h6 := h.inn.len
  simp only [ints, List.length_map, List.take_length] at h1 h2 h3 h4 h6
  have := hm.s
  have := hm.g
  have := hm.b
  have := hm.r
  exact ⟨by omega, by omega, by omega, by omega, by omega, hi⟩
end Go.Proofs.YthamndmfenpniaaGreatDoor
