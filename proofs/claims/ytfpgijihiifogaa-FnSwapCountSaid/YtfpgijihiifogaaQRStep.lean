/- Part of a proof: RStep. -/
import Derived.Test.YtfpgijihiifogaaQROn
import Derived.Test.YtfpgijihiifogaaQMOn
set_option maxRecDepth 100000
set_option maxHeartbeats 16000000
namespace Go.Proofs.Ytfpgijihiifogaa
open Go.RowKit
def stepQ (w0 : World) (fl : List It) (p : Pg) (s : StD) (t : Int) (e : Ending) (w' : World) : Prop := ∃ (v' : StV) (L' : StL), e = .returned v'.val ∧ Sf w0 w' fl v' L' (stepD p s t)
theorem specStop7_ok (v : StV) (f : Int) (w : World) : Calls Try.prog 50 #[.agg #[.slice v.pl.a v.pl.n v.pl.c, .slice v.st.a v.st.n v.st.c, .slice v.se.a v.se.n v.se.c, .slice v.on.a v.on.n v.on.c, .slice v.gr.a v.gr.n v.gr.c, .slice v.ba.a v.ba.n v.ba.c, .slice v.ch.a v.ch.n v.ch.c, .slice v.sa.a v.sa.n v.sa.c, .int .i64 v.fl], .int .i64 f] w fun e w' => e = .returned (StV.val { v with fl := f }) ∧ Below w.heap.size w w' := by
 have F0 := ((Fr.start w).alloc (svC v) 44).alloc zC 44
 simp only [World.size_alloc] at F0
 go_enter Try.func50, Try.ntmps50
 go_upto_region 1 with fail
 obtain ⟨W, hw, F⟩ := F0.named
 rw [← hw]
 clear hw F0
 have cs := F.c9 1 rfl
 have F3 : Fr w _ [.blk (w.heap.size + 1) zC 44, .blk w.heap.size (svC { v with fl := f }) 44] := F.set 1 rfl 8 (.int .i64 f)
 go_upto_region 2 with fail
 clear cs
 have cs := F3.c9 1 rfl
 have cz := F3.c9 0 rfl
 have F4 := F3.set9 0 rfl (.slice v.pl.a v.pl.n v.pl.c) (.slice v.st.a v.st.n v.st.c) (.slice v.se.a v.se.n v.se.c) (.slice v.on.a v.on.n v.on.c) (.slice v.gr.a v.gr.n v.gr.c) (.slice v.ba.a v.ba.n v.ba.c) (.slice v.ch.a v.ch.n v.ch.c) (.slice v.sa.a v.sa.n v.sa.c) (.int .i64 f)
 go_wp2
 exact bodyPost_ret (v := StV.val { v with fl := f }) (by simp [results, Try.results50, go_sem, F4.c9 0 rfl]) rfl ⟨rfl, F4.bel⟩
theorem specOn7_sf {w0 W : World} {l : List It} {u : PV} {p : Pg} {v : StV} {L : StL} {s : StD} (h : Sf w0 W l v L s) (hp : RdP w0 u p) (hz : Small u p) {a : Option Addr} {n c : Nat} {who : List Int} (hw : SlR v.blks W ⟨a, n, c⟩ (ints who) who.length) (hl : who.length ≤ 9) (hn : 0 < s.places.length ∧ s.places.length ≤ 8 ∧ s.places.length = s.status.length) (ht : ∀ t ∈ who, 0 ≤ t ∧ t < p.threads.length ∧ t < s.places.length) (hpl : ∀ i, 0 ≤ s.places.getD i 0 ∧ s.places.getD i 0 ≤ 8) :
  Calls Try.prog 55 #[.agg #[.slice u.s u.ns u.cs, .slice u.g u.ng u.cg, .slice u.b u.nb u.cb, .slice u.r u.nr u.cr, .slice u.t u.nt u.ct], .agg #[.slice v.pl.a v.pl.n v.pl.c, .slice v.st.a v.st.n v.st.c, .slice v.se.a v.se.n v.se.c, .slice v.on.a v.on.n v.on.c, .slice v.gr.a v.gr.n v.gr.c, .slice v.ba.a v.ba.n v.ba.c, .slice v.ch.a v.ch.n v.ch.c, .slice v.sa.a v.sa.n v.sa.c, .int .i64 v.fl], .slice a n c] W fun e w' => e = .returned v.val ∧ Sf w0 w' l v L (goAll p s who) :=
 (specOn7_ok (foots l) w0.heap.size u p v L s a n c who w0 W hp xL1 h.bel hz h.bel.size h.st hw hl hn ht hpl).mono fun _ _ ⟨e1, h1, _, h3⟩ => ⟨e1, h.upd h3 h1⟩
theorem Sf.rowR {w W : World} {l : List It} {v : StV} {L : StL} {s : StD} (h : Sf w W l v L s) (k : Nat) {a : Option Addr} {n c : Nat} {xs : List Int} (hi : l[k]? = some (.row a n c 3 1 (ints xs))) : SlR v.blks W ⟨a, n, c⟩ (ints xs) xs.length := by
 have own := h.fr.own k hi
 have h2 : n = xs.length := by have := own.1; simp only [ints, List.length_map] at this; omega
 have h1 := SlR.of_owns (s := ⟨a, n, c⟩) own h2
 exact ⟨h1.len, h1.rd, .inr fun b hb => (h.st.xs b (foot_in hi b (by simp [It.foot, show rowOf a = some b from hb]))).2, h1.cap⟩
theorem SlR.apRow {S T : List Nat} {W : World} {q : SlV} {cs : List Value} {k : Nat} (h : SlR (S ++ T) W q cs k) {a : Option Addr} (hap : cs = [] ∨ ∀ b, rowOf q.a = some b → rowOf a ≠ some b) : SlR (((rowOf a).toList ++ S) ++ T) W q cs k := by
 refine ⟨h.len, h.rd, ?_, h.cap⟩
 rcases h.far with h0 | h0
 ·exact .inl h0
 rcases hap with h1 | h1
 ·exact .inl h1
 ·refine .inr fun b hb hm => ?_
  rw [List.append_assoc] at hm
  rcases xP1 hm with hm | hm
  ·exact h1 b hb (by simpa using hm)
  ·exact h0 b hb hm
end Go.Proofs.Ytfpgijihiifogaa
