/- Part of a proof: Sf2. -/
import Derived.Test.YtfpgijihiifogaaQPMachK
set_option maxRecDepth 100000
set_option maxHeartbeats 16000000
namespace Go.Proofs.Ytfpgijihiifogaa
open Go.RowKit
theorem StO.push_pl {X : List Nat} {B : Nat} {w w' : World} {v : StV} {L : StL} {s : StD} (h : StO X B w v L s) {r : SlV} (G : w.grownBy w' (rowOf v.pl.a)) (hn : ∀ k, rowOf r.a = some k → rowOf v.pl.a = some k ∨ w.heap.size ≤ k) {ps : List Int} (hl : r.n = ps.length) (ho : w'.ownsRow B 3 1 r.val r.n (ints ps)) : StO X B w' { v with pl := r } L { s with places := ps } := by
 have hB0 : ∀ b ∈ StV.blks { v with pl := r }, b ∈ v.blks ∨ w.heap.size ≤ b := by
  intro b hm
  unfold StV.blks at hm ⊢
  obtain ⟨y, hy, hyk⟩ := List.mem_filterMap.1 hm
  simp only [List.mem_cons, List.not_mem_nil, or_false] at hy
  rcases hy with rfl | rfl | rfl | rfl | rfl | rfl | rfl | rfl
  ·rcases hn b hyk with h1 | h1
   ·exact .inl (List.mem_filterMap.2 ⟨v.pl.a, by simp, h1⟩)
   ·exact .inr h1
  ·exact .inl (List.mem_filterMap.2 ⟨_, by simp, hyk⟩)
  ·exact .inl (List.mem_filterMap.2 ⟨_, by simp, hyk⟩)
  ·exact .inl (List.mem_filterMap.2 ⟨_, by simp, hyk⟩)
  ·exact .inl (List.mem_filterMap.2 ⟨_, by simp, hyk⟩)
  ·exact .inl (List.mem_filterMap.2 ⟨_, by simp, hyk⟩)
  ·exact .inl (List.mem_filterMap.2 ⟨_, by simp, hyk⟩)
  ·exact .inl (List.mem_filterMap.2 ⟨_, by simp, hyk⟩)
 have hB : ∀ b ∈ X ++ StV.blks { v with pl := r }, b ∈ X ++ v.blks ∨ w.heap.size ≤ b := by
  intro b hm
  rcases xP1 hm with hm | hm
  ·exact .inl (xQ1 (.inl hm))
  ·exact (hB0 b hm).imp (fun h => xQ1 (.inr h)) id
 have hT : Touch (X ++ v.blks) w w' := Touch.of_grown G fun k hk => xQ1 (.inr (StV.mem_pl hk))
 have hX : ∀ k ∈ X, k < w'.heap.size ∧ k ∉ StV.blks { v with pl := r } := fun k hk => ⟨Nat.lt_of_lt_of_le (h.xs k hk).1 G.size, fun hm => by
  rcases hB0 k hm with h1 | h1
  ·exact (h.xs k hk).2 h1
  ·have := (h.xs k hk).1; omega⟩
 refine ⟨ho, hl, owns_grown h.st G (fun k hk hq => h.dps k hq hk), h.nst, owns_grown h.se G (fun k hk hq => owns_owns h.se h.pl (by decide) _ hk hq), h.nse, owns_grown h.on G (fun k hk hq => owns_owns h.on h.pl (by decide) _ hk hq), h.non, owns_grown h.gr G (fun k hk hq => owns_owns h.gr h.pl (by decide) _ hk hq), h.ngr, owns_grown h.ba G (fun k hk hq => owns_owns h.ba h.pl (by decide) _ hk hq), h.nba, owns_grown h.ch G (fun k hk hq => owns_owns h.ch h.pl (by decide) _ hk hq), h.nch, owns_grown h.sa G (fun k hk hq => h.dpa k hq hk), h.nsa, h.fl, ?_, ?_, h.dsa, hX, (h.inn.wide hT hB).to ⟨rfl, rfl, rfl, rfl, rfl⟩⟩
 ·intro k hk hq
  rcases hn k hk with h1 | h1
  ·exact h.dps k h1 hq
  ·have := (owns_row h.st k hq).2; omega
 ·intro k hk hq
  rcases hn k hk with h1 | h1
  ·exact h.dpa k h1 hq
  ·have := (owns_row h.sa k hq).2; omega
theorem StO.push_st {X : List Nat} {B : Nat} {w w' : World} {v : StV} {L : StL} {s : StD} (h : StO X B w v L s) {r : SlV} (G : w.grownBy w' (rowOf v.st.a)) (hn : ∀ k, rowOf r.a = some k → rowOf v.st.a = some k ∨ w.heap.size ≤ k) {ps : List Int} (hl : r.n = ps.length) (ho : w'.ownsRow B 3 1 r.val r.n (ints ps)) : StO X B w' { v with st := r } L { s with status := ps } := by
 have hB0 : ∀ b ∈ StV.blks { v with st := r }, b ∈ v.blks ∨ w.heap.size ≤ b := by
  intro b hm
  unfold StV.blks at hm ⊢
  obtain ⟨y, hy, hyk⟩ := List.mem_filterMap.1 hm
  simp only [List.mem_cons, List.not_mem_nil, or_false] at hy
  rcases hy with rfl | rfl | rfl | rfl | rfl | rfl | rfl | rfl
  ·exact .inl (List.mem_filterMap.2 ⟨_, by simp, hyk⟩)
  ·rcases hn b hyk with h1 | h1
   ·exact .inl (List.mem_filterMap.2 ⟨v.st.a, by simp, h1⟩)
   ·exact .inr h1
  ·exact .inl (List.mem_filterMap.2 ⟨_, by simp, hyk⟩)
  ·exact .inl (List.mem_filterMap.2 ⟨_, by simp, hyk⟩)
  ·exact .inl (List.mem_filterMap.2 ⟨_, by simp, hyk⟩)
  ·exact .inl (List.mem_filterMap.2 ⟨_, by simp, hyk⟩)
  ·exact .inl (List.mem_filterMap.2 ⟨_, by simp, hyk⟩)
  ·exact .inl (List.mem_filterMap.2 ⟨_, by simp, hyk⟩)
 have hB : ∀ b ∈ X ++ StV.blks { v with st := r }, b ∈ X ++ v.blks ∨ w.heap.size ≤ b := by
  intro b hm
  rcases xP1 hm with hm | hm
  ·exact .inl (xQ1 (.inl hm))
  ·exact (hB0 b hm).imp (fun h => xQ1 (.inr h)) id
 have hT : Touch (X ++ v.blks) w w' := Touch.of_grown G fun k hk => xQ1 (.inr (StV.mem_st hk))
 have hX : ∀ k ∈ X, k < w'.heap.size ∧ k ∉ StV.blks { v with st := r } := fun k hk => ⟨Nat.lt_of_lt_of_le (h.xs k hk).1 G.size, fun hm => by
  rcases hB0 k hm with h1 | h1
  ·exact (h.xs k hk).2 h1
  ·have := (h.xs k hk).1; omega⟩
 refine ⟨owns_grown h.pl G (fun k hk hq => h.dps k hk hq), h.npl, ho, hl, owns_grown h.se G (fun k hk hq => owns_owns h.se h.st (by decide) _ hk hq), h.nse, owns_grown h.on G (fun k hk hq => owns_owns h.on h.st (by decide) _ hk hq), h.non, owns_grown h.gr G (fun k hk hq => owns_owns h.gr h.st (by decide) _ hk hq), h.ngr, owns_grown h.ba G (fun k hk hq => owns_owns h.ba h.st (by decide) _ hk hq), h.nba, owns_grown h.ch G (fun k hk hq => owns_owns h.ch h.st (by decide) _ hk hq), h.nch, owns_grown h.sa G (fun k hk hq => h.dsa k hq hk), h.nsa, h.fl, ?_, h.dpa, ?_, hX, (h.inn.wide hT hB).to ⟨rfl, rfl, rfl, rfl, rfl⟩⟩
 ·intro k hk hq
  rcases hn k hq with h1 | h1
  ·exact h.dps k hk h1
  ·have := (owns_row h.pl k hk).2; omega
 ·intro k hk hq
  rcases hn k hk with h1 | h1
  ·exact h.dsa k h1 hq
  ·have := (owns_row h.sa k hq).2; omega
section
variable {w W : World} {l : List It} {v : StV} {L : StL} {s : StD} {ops : Array Oper} {rest : List Oper} {o : Oper} {ac : Act} {Q : Exit → Act → World → Prop}
theorem Sf.app_pl (h : Sf w W l v L s) (hgd : o.guard = none) (y z : Operand) (ho : o.op = .call { callee := .builtin .append, args := #[y, z], argTypes := #[23, 23] }) (hs : ac.eval y = v.pl.val) {a2 : Option Addr} {c2 : Nat} {x : Int} (hx : ac.eval z = .slice a2 1 c2) (hr : Rd W a2 (ints [x])) (hn : v.pl.n + 1 ≤ 1048576)
  (K : ∀ (r : SlV) W', Sf w W' l { v with pl := r } L { s with places := s.places ++ [x] } → wpList Try.prog ops Q rest (ac.put o.dst r.val) W') : wpList Try.prog ops Q (o :: rest) ac W :=
 wpList_append_hn hgd y z _ ho Try.underlying23 info_int rfl (by decide) hs h.st.pl hx rfl hr (ints_one [x]) (by omega) (by decide) h.fr.bel.size fun a' c' W' ho' hg hn' =>
  K ⟨a', v.pl.n + 1, c'⟩ W' (h.upd (Touch.of_grown hg fun k hk => StV.mem_pl hk) (h.st.push_pl hg hn' (by show v.pl.n + 1 = _; rw [List.length_append, h.st.npl]; rfl) (by rw [ints_app]; exact ho')))
theorem Sf.app_st (h : Sf w W l v L s) (hgd : o.guard = none) (y z : Operand) (ho : o.op = .call { callee := .builtin .append, args := #[y, z], argTypes := #[23, 23] }) (hs : ac.eval y = v.st.val) {a2 : Option Addr} {c2 : Nat} {x : Int} (hx : ac.eval z = .slice a2 1 c2) (hr : Rd W a2 (ints [x])) (hn : v.st.n + 1 ≤ 1048576)
  (K : ∀ (r : SlV) W', Sf w W' l { v with st := r } L { s with status := s.status ++ [x] } → wpList Try.prog ops Q rest (ac.put o.dst r.val) W') : wpList Try.prog ops Q (o :: rest) ac W :=
 wpList_append_hn hgd y z _ ho Try.underlying23 info_int rfl (by decide) hs h.st.st hx rfl hr (ints_one [x]) (by omega) (by decide) h.fr.bel.size fun a' c' W' ho' hg hn' =>
  K ⟨a', v.st.n + 1, c'⟩ W' (h.upd (Touch.of_grown hg fun k hk => StV.mem_st hk) (h.st.push_st hg hn' (by show v.st.n + 1 = _; rw [List.length_append, h.st.nst]; rfl) (by rw [ints_app]; exact ho')))
end
end Go.Proofs.Ytfpgijihiifogaa
