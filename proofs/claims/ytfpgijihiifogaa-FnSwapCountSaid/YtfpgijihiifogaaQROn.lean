/- Part of a proof: ROn. -/
import Derived.Test.YtfpgijihiifogaaQPMachK
import Derived.Test.YtfpgijihiifogaaQSb
import Derived.Test.YtfpgijihiifogaaQRkb
set_option maxRecDepth 100000
set_option maxHeartbeats 16000000
namespace Go.Proofs.Ytfpgijihiifogaa
open Go.RowKit
theorem StO.regrow {X X' : List Nat} {B : Nat} {w w' : World} {v : StV} {L : StL} {s : StD} (h : StO X B w v L s) (T : Touch X w w') (hX : ∀ k ∈ X', k ∈ X ∨ (w.heap.size ≤ k ∧ k < w'.heap.size)) : StO X' B w' v L s :=
 { h.other T with
  xs := fun k hk => by
   rcases hX k hk with h1 | ⟨h1, h2⟩
   ·exact (h.other T).xs k h1
   ·exact ⟨h2, fun hm => by have := (h.from _ hm).2; omega⟩
  inn := h.inn.wide (T.mono fun k hk => xQ1 (.inl hk)) fun b hb => by
   rcases xP1 hb with hb | hb
   ·rcases hX b hb with h1 | ⟨h1, -⟩
    ·exact .inl (xQ1 (.inl h1))
    ·exact .inr h1
   ·exact .inl (xQ1 (.inr hb)) }
theorem Sf.appRow {w W W' : World} {l : List It} {v : StV} {L : StL} {s : StD} (h : Sf w W l v L s) (k : Nat) {a a' : Option Addr} {n c n' c' sz : Nat} {E : TypeId} {cs cs' : List Value} (hi : l[k]? = some (.row a n c E sz cs)) (hg : W.grownBy W' (rowOf a)) (h' : W'.ownsRow w.heap.size E sz (.slice a' n' c') n' cs') (hn : ∀ q, rowOf a' = some q → rowOf a = some q ∨ W.heap.size ≤ q) : Sf w W' (l.set k (.row a' n' c' E sz cs')) v L s := by
 have hT : Touch (foots l) W W' := Touch.of_grown hg fun q hq => foot_in hi q (by simp [It.foot, hq])
 refine ⟨h.fr.app k hi hg h' hn, h.st.regrow hT fun q hq => ?_⟩
 obtain ⟨j, hj, hqj⟩ := List.mem_flatMap.1 hq
 rcases List.mem_or_eq_of_mem_set hj with hj | rfl
 ·exact .inl (List.mem_flatMap.2 ⟨j, hj, hqj⟩)
 ·have hq' : rowOf a' = some q := by simpa [It.foot] using hqj
  rcases hn q hq' with h1 | h1
  ·exact .inl (foot_in hi q (by simp [It.foot, h1]))
  ·exact .inr ⟨h1, (owns_row h' q hq').2⟩
section
variable {w W : World} {l : List It} {v : StV} {L : StL} {s : StD} {ops : Array Oper} {rest : List Oper} {o : Oper} {ac : Act} {Q : Exit → Act → World → Prop}
theorem Sf.appI (h : Sf w W l v L s) (k : Nat) (hgd : o.guard = none) (y z : Operand) (ho : o.op = .call { callee := .builtin .append, args := #[y, z], argTypes := #[23, 23] })
  {a : Option Addr} {n c : Nat} {xs : List Int} (hi : l[k]? = some (.row a n c 3 1 (ints xs))) (hs : ac.eval y = .slice a n c) {a2 : Option Addr} {m c2 : Nat} (ys : List Int) (hx : ac.eval z = .slice a2 m c2) (hl : ys.length = m) (hsrc : Rd W a2 (ints ys)) (hb : n + m ≤ 1048576)
  (K : ∀ a' c' W', Sf w W' (l.set k (.row a' (n + m) c' 3 1 (ints (xs ++ ys)))) v L s → wpList Try.prog ops Q rest (ac.put o.dst (.slice a' (n + m) c')) W') : wpList Try.prog ops Q (o :: rest) ac W :=
 wpList_append_hn hgd y z _ ho Try.underlying23 info_int rfl (by decide) hs (h.fr.own k hi) hx (by rw [List.length_map, hl, Nat.mul_one]) hsrc (ints_one ys) (by omega) (by decide) h.bel.size fun a' c' W' ho' hg hn' => K a' c' W' (h.appRow k hi hg (by rw [ints_app]; exact ho') hn')
end
theorem SlR.apFoot {W : World} {l : List It} {T : List Nat} {q : SlV} {cs : List Value} {k : Nat} (h : SlR (foots l ++ T) W q cs k) {i : It} (hd : ∀ b, rowOf q.a = some b → b ∉ i.foot) : SlR (foots (i :: l) ++ T) W q cs k :=
 ⟨h.len, h.rd, h.far.imp id fun h0 b hb hm => by
  rw [show foots (i :: l) = i.foot ++ foots l from rfl, List.append_assoc] at hm
  rcases xP1 hm with hm | hm
  ·exact hd b hb hm
  ·exact h0 b hb hm, h.cap⟩
theorem Sf.chn_of {w0 W w1 : World} {l : List It} {v : StV} {L : StL} {s : StD} (h : Sf w0 W l v L s) {y : ChnD} {s1 s2 s3 u : SlV} {t : List Int} (FC : Fr W w1 [.row s1.a s1.n s1.c 3 1 (ints y.items), .row s2.a s2.n s2.c 155 2 (pairs y.senders), .row s3.a s3.n s3.c 3 1 (ints y.getters), .row u.a u.n u.c 3 1 (ints t)]) (C : Array Value) : Sf w0 (w1.alloc (.cells C 92)) (.blk w1.heap.size C 92 :: .row u.a u.n u.c 3 1 (ints t) :: l) v L s ∧ chnR (foots (.blk w1.heap.size C 92 :: .row u.a u.n u.c 3 1 (ints t) :: l) ++ v.blks) (w1.alloc (.cells C 92)) y (s1, s2, s3) := by
 have F := FC.alloc C 92
 have n1 : s1.n = y.items.length := by have := (FC.own 0 rfl).1; simp only [ints, List.length_map] at this; omega
 have n2 : s2.n = y.senders.length := by have := (FC.own 1 rfl).1; rw [pairs_len] at this; omega
 have n3 : s3.n = y.getters.length := by have := (FC.own 2 rfl).1; simp only [ints, List.length_map] at this; omega
 refine ⟨h.join (F.sub (l' := [.blk w1.heap.size C 92, .row u.a u.n u.c 3 1 (ints t)]) (.cons_cons _ (.cons _ (.cons _ (.cons _ (.refl _)))))), ?_, ?_, ?_⟩
 ·show SlR _ _ _ _ y.items.length
  rw [← n1]
  exact ((h.apart (F.sln 1 rfl)).apFoot fun b hb => F.dis (k := 1) (k' := 4) (by decide) rfl rfl b (by simp [It.foot, show rowOf s1.a = some b from hb])).apFoot fun b hb => F.dis (k := 1) (k' := 0) (by decide) rfl rfl b (by simp [It.foot, show rowOf s1.a = some b from hb])
 ·show SlR _ _ _ _ y.senders.length
  rw [← n2]
  exact ((h.apart (F.sln 2 rfl)).apFoot fun b hb => F.dis (k := 2) (k' := 4) (by decide) rfl rfl b (by simp [It.foot, show rowOf s2.a = some b from hb])).apFoot fun b hb => F.dis (k := 2) (k' := 0) (by decide) rfl rfl b (by simp [It.foot, show rowOf s2.a = some b from hb])
 ·show SlR _ _ _ _ y.getters.length
  rw [← n3]
  exact ((h.apart (F.sln 3 rfl)).apFoot fun b hb => F.dis (k := 3) (k' := 4) (by decide) rfl rfl b (by simp [It.foot, show rowOf s3.a = some b from hb])).apFoot fun b hb => F.dis (k := 3) (k' := 0) (by decide) rfl rfl b (by simp [It.foot, show rowOf s3.a = some b from hb])
def onOps (d0 d1 d2 d3 d4 d5 tp ts tw tt : Nat) (p : String) : List Oper := [{ dst := some d0, op := .load 31 (.tmp tp), type := 31, pos := p, after := #[], guard := none }, { dst := some d1, op := .load 44 (.tmp ts), type := 44, pos := p, after := #[], guard := none }, { dst := some d2, op := .move (.tmp tw), type := 23, pos := p, after := #[], guard := none }, { dst := some d3, op := .move (.tmp tt), type := 3, pos := p, after := #[], guard := none }, { dst := some d4, op := .buildSlice 23 1 #[(0, .tmp d3)], type := 23, pos := p, after := #[{ on := 3, ground := .data }], guard := none }, { dst := some d5, op := .call { callee := .builtin .append, args := #[.tmp d2, .tmp d4], argTypes := #[23, 23] }, type := 23, pos := p, after := #[{ on := 2, ground := .data }, { on := 4, ground := .data }], guard := none }]
theorem Sf.on_region {w W : World} {l : List It} {v : StV} {L : StL} {s : StD} {u : PV} (h : Sf w W l v L s) (kp ks kw : Nat) {bp bs : Nat} {t : Int} {za : Option Addr} {zn zc : Nat} {who : List Int} (hp : l[kp]? = some (.blk bp (pvC u) 31)) (hs : l[ks]? = some (.blk bs (svC v) 44)) (hw : l[kw]? = some (.row za zn zc 3 1 (ints who))) (hn : zn ≤ 1048575) (n1 : kw ≠ kp) (n2 : kw ≠ ks)
  {id : Nat} {a0 : Act} {Q : Exit → Act → World → Prop} {d0 d1 d2 d3 d4 d5 tp ts tw tt : Nat} {p : String} {o6 o7 : Oper}
  (e0 : a0.eval (.tmp tp) = .pointer (some ⟨bp, 0, none⟩)) (e1 : a0.eval (.tmp ts) = .pointer (some ⟨bs, 0, none⟩)) (e2 : a0.eval (.tmp tw) = .slice za zn zc) (e3 : a0.eval (.tmp tt) = .int .i64 t)
  (K : ∀ (a' : Option Addr) (c' g : Nat) (W' : World), Sf w W' (l.set kw (.row a' (zn + 1) c' 3 1 (ints (who ++ [t])))) v L s → wpList Try.prog (onOps d0 d1 d2 d3 d4 d5 tp ts tw tt p ++ [o6, o7]).toArray Q [o6, o7] ((((((a0.put (some d0) (.agg (pvC u))).put (some d1) (.agg (svC v))).put (some d2) (.slice za zn zc)).put (some d3) (.int .i64 t)).put (some d4) (.slice (some ⟨g, 0, none⟩) 1 1)).put (some d5) (.slice a' (zn + 1) c')) W')
  (hf : fits (onOps d0 d1 d2 d3 d4 d5 tp ts tw tt p ++ [o6, o7]) 6 a0.tmps.size = true := by kernel_rfl) (ho : ([tp, ts, tw, tt].all fun x => outer (onOps d0 d1 d2 d3 d4 d5 tp ts tw tt p) (.tmp x)) = true := by kernel_rfl) :
  (Code.region id #[{ dst := some d0, op := .load 31 (.tmp tp), type := 31, pos := p, after := #[], guard := none }, { dst := some d1, op := .load 44 (.tmp ts), type := 44, pos := p, after := #[], guard := none }, { dst := some d2, op := .move (.tmp tw), type := 23, pos := p, after := #[], guard := none }, { dst := some d3, op := .move (.tmp tt), type := 3, pos := p, after := #[], guard := none }, { dst := some d4, op := .buildSlice 23 1 #[(0, .tmp d3)], type := 23, pos := p, after := #[{ on := 3, ground := .data }], guard := none }, { dst := some d5, op := .call { callee := .builtin .append, args := #[.tmp d2, .tmp d4], argTypes := #[23, 23] }, type := 23, pos := p, after := #[{ on := 2, ground := .data }, { on := 4, ground := .data }], guard := none }, o6, o7] true).wp Try.prog Q a0 W := by
 simp only [List.all_cons, List.all_nil, Bool.and_true, Bool.and_eq_true] at ho
 obtain ⟨q0, q1, q2, q3⟩ := ho
 have kP : Blk W bp (pvC u) 31 := h.fr.blk kp hp
 have kS : Blk W bs (svC v) 44 := h.fr.blk ks hs
 have nP : bp ∉ (rowOf za).toList := h.fr.dis n1 hp hw bp (List.mem_singleton.2 rfl)
 have nS : bs ∉ (rowOf za).toList := h.fr.dis n2 hs hw bs (List.mem_singleton.2 rfl)
 have hza : ∀ q, rowOf za = some q → q < W.heap.size := fun q hq => (h.fr.inside q (foot_in hw q (by simp [It.foot, hq]))).2
 refine wp_region_steps (l := onOps d0 d1 d2 d3 d4 d5 tp ts tw tt p ++ [o6, o7]) 6 (by kernel_rfl) hf [isV (.agg (pvC u)), isV (.agg (svC v)), isV (.slice za zn zc), isV (.int .i64 t), fun _ u w' => ∃ g : Nat, u = .slice (some ⟨g, 0, none⟩) 1 1 ∧ Blk w' g #[.int .i64 t] 3 ∧ W.heap.size ≤ g, fun _ u w' => ∃ (a' : Option Addr) (c' : Nat), u = .slice a' (zn + 1) c' ∧ Sf w w' (l.set kw (.row a' (zn + 1) c' 3 1 (ints (who ++ [t])))) v L s] (St1 5 fun wa wb => wa.grownBy wb (rowOf za)) (fun _ _ => none) (Stage 5 (rowOf za).toList W) (Stage.start _ _ _) (st1_size (fun _ _ h => h.size)) (stab1_of ⟨pS, pS, pS, pS, fun _ _ _ _ hb ⟨g, e, h, hs⟩ => ⟨g, e, h.below hb, hs⟩, fun _ _ _ _ hb ⟨a, c, e, h⟩ => ⟨a, c, e, h.call hb⟩, trivial⟩ ⟨.inr pS, .inr pS, .inr pS, .inr pS, .inr fun _ _ _ _ hT ⟨g, e, h, hs⟩ => ⟨g, e, h.grown hT (fun e' => by have := hza g e'; omega), hs⟩, .inl rfl, trivial⟩) ?_ ?_
 ·rw [show (onOps d0 d1 d2 d3 d4 d5 tp ts tw tt p ++ [o6, o7]).take 6 = onOps d0 d1 d2 d3 d4 d5 tp ts tw tt p from rfl]
  refine ⟨?_, ?_, ?_, ?_, ?_, ?_, trivial⟩
  all_goals (intro ρ w1 Lf hG hny hfr hd; obtain ⟨fc, ff⟩ := fcff hfr; have f0 := (hfr _ q0).trans e0; have f1 := (hfr _ q1).trans e1; have f2 := (hfr _ q2).trans e2; have f3 := (hfr _ q3).trans e3; clear hfr e0 e1 e2 e3)
  ·have kb := hG.2.blk kP nP
   have c0 := kb.cell 0 rfl
   have c1 := kb.cell 1 rfl
   have c2 := kb.cell 2 rfl
   have c3 := kb.cell 3 rfl
   have c4 := kb.cell 4 rfl
   exact gives_val (u := .agg (pvC u)) (w' := w1) (by go_simp) ⟨st1_below (by decide) xB1, rfl, xN1, hG.step (by decide) xB1⟩
  ·have kb := hG.2.blk kS nS
   have c0 := kb.cell 0 rfl
   have c1 := kb.cell 1 rfl
   have c2 := kb.cell 2 rfl
   have c3 := kb.cell 3 rfl
   have c4 := kb.cell 4 rfl
   have c5 := kb.cell 5 rfl
   have c6 := kb.cell 6 rfl
   have c7 := kb.cell 7 rfl
   have c8 := kb.cell 8 rfl
   exact gives_val (u := .agg (svC v)) (w' := w1) (by go_simp) ⟨st1_below (by decide) xB1, rfl, xN1, hG.step (by decide) xB1⟩
  ·exact gives_val (u := .slice za zn zc) (w' := w1) (by go_simp) ⟨st1_below (by decide) xB1, rfl, xN1, hG.step (by decide) xB1⟩
  ·exact gives_val (u := .int .i64 t) (w' := w1) (by go_simp) ⟨st1_below (by decide) xB1, rfl, xN1, hG.step (by decide) xB1⟩
  ·have d : ρ (.tmp d3) = _ := hd.1
   exact gives_val (u := .slice (some ⟨w1.heap.size, 0, none⟩) 1 1) (w' := w1.alloc (.cells #[.int .i64 t] 3)) (by go_simp) ⟨st1_below (by decide) (xA1), ⟨_, rfl, Blk.new _ _ _, hG.2.size⟩, xN1, hG.step (by decide) (xA1)⟩
  ·have d : ρ (.tmp d2) = _ := hd.1
   have d' : ∃ g : Nat, ρ (.tmp d4) = .slice (some ⟨g, 0, none⟩) 1 1 ∧ Blk w1 g #[.int .i64 t] 3 ∧ W.heap.size ≤ g := hd.2.1
   obtain ⟨g, d', kg, -⟩ := d'
   have hL := hny 5 _ rfl (by rfl)
   have hb := hG.1 hL
   have h1 := h.call hb
   obtain ⟨a', c', w', hr, ho', hg, hn'⟩ := run_append_hn (P := Try.prog) (c2 := 1) 23 23 Try.underlying23 info_int rfl (by decide) (h1.fr.own kw hw) (a2 := some ⟨g, 0, none⟩) (m := 1) (news := [.int .i64 t]) rfl (Rd.of_blk kg) (ints_one [t]) (by omega) (by decide) h1.bel.size
   refine gives_val (u := .slice a' (zn + 1) c') (w' := w') ?_ ⟨st1_own hg, ⟨a', c', rfl, h1.appRow kw hw hg (by rw [ints_app]; exact ho') hn'⟩, xN1, hG.own (Touch.of_grown hg fun q hq => by simp [hq])⟩
   unfold execOp
   simp only [resolve, invoke, builtin, Sem.run_bind, Sem.run_pure, Result.andThen_ok, List.map_toArray, List.map_cons, List.map_nil, d, d', hr]
 ·intro vs w2 LL hG hlen hall hap hbd
  obtain ⟨x0, x1, x2, x3, x4, x5, rfl⟩ := len6 hlen
  obtain ⟨k0, k1, k2, k3, k4, k5, -⟩ := hall
  obtain rfl : x0 = _ := k0
  obtain rfl : x1 = _ := k1
  obtain rfl : x2 = _ := k2
  obtain rfl : x3 = _ := k3
  obtain ⟨g, rfl, -, -⟩ : ∃ g : Nat, x4 = .slice (some ⟨g, 0, none⟩) 1 1 ∧ Blk w2 g #[.int .i64 t] 3 ∧ W.heap.size ≤ g := k4
  obtain ⟨a', c', rfl, h2⟩ : ∃ (a' : Option Addr) (c' : Nat), x5 = .slice a' (zn + 1) c' ∧ Sf w w2 (l.set kw (.row a' (zn + 1) c' 3 1 (ints (who ++ [t])))) v L s := k5
  exact K a' c' g w2 h2
end Go.Proofs.Ytfpgijihiifogaa
