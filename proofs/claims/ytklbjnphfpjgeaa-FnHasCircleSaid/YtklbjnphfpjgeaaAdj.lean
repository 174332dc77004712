/- A map of slices of numbers that the call makes: who follows whom. -/
import Derived.Test.YtklbjnphfpjgeaaMaps
import Derived.Maps.AppendAt
namespace Go.Proofs.Ytklbjnphfpjgeaa
open Go.RowKit

/-- Block B is a map; at key k it holds a row of its own that reads as 'S k'; the rows lie from 'lo' on, no two keys' rows in one block. -/
def AdjI (w : World) (B lo : Nat) (E : TypeId) (L : List (Int × Value)) (S : Int → List Int) : Prop :=
  MapI w B L ∧ B < lo ∧ (∀ k, mget L k = none → S k = []) ∧ (∀ k v, mget L k = some v → S k ≠ [] ∧ w.ownsRow lo E 1 v (S k).length (ints (S k))) ∧
    ∀ k k' v v' g, k ≠ k' → mget L k = some v → mget L k' = some v' → v.ownBlock = some g → v'.ownBlock ≠ some g

theorem AdjI.made {w : World} {lo : Nat} {E : TypeId} (h : w.heap.size < lo) : AdjI (w.alloc (.map #[] 0)) w.heap.size lo E [] (fun _ => []) :=
  ⟨MapI.made w, h, fun _ _ => rfl, fun k v h => by simp [mget] at h, fun k k' v v' g _ h => by simp [mget] at h⟩

section
variable {w : World} {B lo : Nat} {E : TypeId} {L : List (Int × Value)} {S : Int → List Int}

/-- The slice at a key, nil where there is none. -/
def atNil (L : List (Int × Value)) (k : Int) : Value := (mget L k).getD (.slice none 0 0)
theorem AdjI.at (h : AdjI w B lo E L S) (k : Int) : w.ownsRow lo E 1 (atNil L k) (S k).length (ints (S k)) := by
  unfold atNil
  cases hm : mget L k with
  | none => rw [h.2.2.1 k hm]; exact World.ownsRow_nil _ _ _ _
  | some v => exact (h.2.2.2.1 k v hm).2
theorem AdjI.keep {w' : World} (h : AdjI w B lo E L S) (hb : w'.heap[B]? = w.heap[B]?) (hr : ∀ k v g, mget L k = some v → v.ownBlock = some g → g < w.heap.size → w'.heap[g]? = w.heap[g]?) : AdjI w' B lo E L S :=
  ⟨h.1.keep hb, h.2.1, h.2.2.1, fun k v hk => ⟨(h.2.2.2.1 k v hk).1, owns_keep (h.2.2.2.1 k v hk).2 fun g hg hl => hr k v g hk hg hl⟩, h.2.2.2.2⟩
theorem AdjI.below {w' : World} (h : AdjI w B lo E L S) (hb : Below w.heap.size w w') : AdjI w' B lo E L S :=
  h.keep (hb.block B h.1.lt) fun _ _ g _ _ hl => hb.block g hl
/-- A step that writes one row that is none of these. -/
theorem AdjI.grown {w' : World} {row : Option Nat} (h : AdjI w B lo E L S) (hg : w.grownBy w' row) (h1 : row ≠ some B) (h2 : ∀ k v g, mget L k = some v → v.ownBlock = some g → row ≠ some g) : AdjI w' B lo E L S :=
  h.keep (hg.block B h.1.lt (fun e => h1 e.symm)) fun k v g hk hv hl => hg.block g hl (fun e => h2 k v g hk hv e.symm)

/-- One number more at a key. -/
theorem AdjI.step {w1 w3 w4 : World} (h : AdjI w B lo E L S) (u x : Int) (hg1 : w.grownBy w1 none) {v' : Value} (hown : w3.ownsRow lo E 1 v' ((S u).length + 1) (ints (S u) ++ [.int .i64 x])) (hg3 : w1.grownBy w3 (atNil L u).ownBlock)
    (hloc : v'.ownBlock = (atNil L u).ownBlock ∨ v'.ownBlock = some w1.heap.size) (hm : MapI w4 B (mput L u v')) (hg4 : w3.grownBy w4 (some B)) :
    AdjI w4 B lo E (mput L u v') (fun k => if k = u then S u ++ [x] else S k) := by
  have hs1 := hg1.size
  have hs3 := hg3.size
  have hown' : w4.ownsRow lo E 1 v' (S u ++ [x]).length (ints (S u ++ [x])) := by
    have := owns_keep hown (w' := w4) (fun g hg hl => hg4.block g hl (fun e => by
      have := (hown.lt g hg).1
      have := h.2.1
      cases e; omega))
    simpa [ints] using this
  -- a row of another key
  have other : ∀ k v, k ≠ u → mget L k = some v → (∀ g, v.ownBlock = some g → (atNil L u).ownBlock ≠ some g) := by
    intro k v hk hv g hg e
    unfold atNil at e
    cases hm : mget L u with
    | none => rw [hm] at e; simp [Value.ownBlock] at e
    | some v0 => rw [hm] at e; exact h.2.2.2.2 k u v v0 g hk hv hm hg e
  have kept : ∀ k v, k ≠ u → mget L k = some v → w4.ownsRow lo E 1 v (S k).length (ints (S k)) := by
    intro k v hk hv
    have h0 := (h.2.2.2.1 k v hv).2
    refine owns_keep h0 fun g hg hl => ?_
    have hgl := h0.lt g hg
    rw [hg4.block g (by omega) (fun e => by have := h.2.1; cases e; omega), hg3.block g (by omega) (fun e => other k v hk hv g hg e.symm), hg1.block g hl (by simp)]
  have apart : ∀ k v g, k ≠ u → mget L k = some v → v.ownBlock = some g → v'.ownBlock ≠ some g := by
    intro k v g hk hv hg e
    rcases hloc with hl | hl
    · rw [hl] at e; exact other k v hk hv g hg e
    · rw [hl] at e
      cases e
      have := ((h.2.2.2.1 k v hv).2.lt _ hg).2
      omega
  refine ⟨hm, h.2.1, ?_, ?_, ?_⟩
  · intro k hk
    have hku : k ≠ u := by rintro rfl; rw [mget_put_same] at hk; cases hk
    rw [mget_put_other _ _ _ _ hku] at hk
    simp only [if_neg hku]; exact h.2.2.1 k hk
  · intro k v hk
    by_cases hku : k = u
    · subst hku
      rw [mget_put_same] at hk; cases hk
      simp only [if_true]
      exact ⟨by simp, hown'⟩
    · rw [mget_put_other _ _ _ _ hku] at hk
      simp only [if_neg hku]
      exact ⟨(h.2.2.2.1 k v hk).1, kept k v hku hk⟩
  · intro k k' v v2 g hne hk hk' hg e
    by_cases hku : k = u
    · subst hku
      rw [mget_put_same] at hk; cases hk
      rw [mget_put_other _ _ _ _ (fun e => hne e.symm)] at hk'
      exact apart k' v2 g (fun e => hne e.symm) hk' e hg
    · rw [mget_put_other _ _ _ _ hku] at hk
      by_cases hku' : k' = u
      · subst hku'
        rw [mget_put_same] at hk'; cases hk'
        exact apart k v g hku hk hg e
      · rw [mget_put_other _ _ _ _ hku'] at hk'
        exact h.2.2.2.2 k k' v v2 g hne hk hk' hg e
end

/-- 'append(m[k], x)' as a step of a region that draws its order: the one element lies in a block of its own. -/
theorem step_append_one {P : Program} {ops : Array Oper} {o : Oper} {a : Act} {W : World} {K : Act → World → Prop} {Q : Exit → Act → World → Prop} {R : Prop}
    (hg : o.guard = none) (s x : Operand) (t : TypeId) (hop : o.op = Op.call { callee := Callee.builtin Builtin.append, args := #[s, x], argTypes := #[t, t] })
    {e : TypeId} {z : Value} {size bytes : Nat} (ht : P.underlying t = some (.slice e)) (hinfo : (P.info? e).map (fun i => (i.zero, i.size, i.bytes)) = some (some z, size, bytes)) (hzs : z.cells.size = size) (hsz : 0 < size)
    {lo n : Nat} {v : Value} {xs : List Value} (hs : a.eval s = v) (hown : W.ownsRow lo e size v n xs)
    {ad : Addr} {m c : Nat} {news : List Value} (hx : a.eval x = .slice (some ad) m c) (hl : news.length = m * size) (hnews : ∀ j u, news[j]? = some u → W.cell? (ad.add j) = some u) (h1 : ∀ u ∈ news, u.oneCell' = true)
    (hbytes : (n + m) * bytes ≤ 140737488355328) (hby : 0 < bytes) (hbase : lo ≤ W.heap.size)
    (h : ∀ v' w', w'.ownsRow lo e size v' (n + m) (xs ++ news) → W.grownBy w' v.ownBlock → (v'.ownBlock = v.ownBlock ∨ v'.ownBlock = some W.heap.size) → K (a.put o.dst v') w') :
    if Region.wanted o (yielded ops a.tmps) = true then Oper.wp P o a W K Q else R := by
  have hw : Region.wanted o (yielded ops a.tmps) = true := by simp [Region.wanted, hg]
  rw [if_pos hw]
  obtain ⟨i, hi, hz0, hz1, hz2⟩ := info_parts hinfo
  have h63 : n + m ≤ maxLen := by
    have := Nat.le_trans (Nat.le_mul_of_pos_right (n + m) hby) hbytes
    simp only [maxLen]; omega
  obtain ⟨v', w', hrun, r1, r2, _, r4⟩ := run_append_own_at (P := P) W lo t o.type e i z size bytes ht hi hz0 hz1 hz2 hzs hsz v n xs hown ad m c news hl hnews h1 h63 hbytes hbase
  unfold Oper.wp
  simp [execOp, hop, resolve, invoke, builtin, hs, hx, hrun, Result.andThen]
  exact h v' w' r1 r2 r4

end Go.Proofs.Ytklbjnphfpjgeaa
