/- PutOp: plain words, the program's own text. -/
import Derived.Test.YtnobkdkfhgjeeaaInsert
import Derived.Test.YtnobkdkfhgjeeaaBaseB
import Derived.Deep.QuietTactic
import Derived.BigQuiet
namespace Go.Proofs.Ytnobkdkfhgjeeaa
open Go.RowKit

def putRes (p : Pg) (t x : Int) (o : OpD) : Option Pg :=
  if 0 ≤ x ∧ x ≤ (p.threads.getD t.toNat []).length ∧ opValid p o = true ∧ (p.threads.getD t.toNat []).length < 8 then some (p.thr (p.threads.set t.toNat ((p.threads.getD t.toNat []).insertIdx x.toNat o))) else none
def putOp (p : Pg) (t x : Int) (o : OpD) : Option Pg := changeP p t (putRes p t x o)

theorem putRes_ok {p : Pg} {t x : Int} {o : OpD} (hs : SmallP p) (h0 : 0 ≤ t) (h1 : t < p.threads.length) : ∀ p', putRes p t x o = some p' → SmallP p' ∧ 0 < p'.threads.length := by
  intro p' h
  unfold putRes at h
  split at h
  · next hc =>
    obtain rfl : p.thr (p.threads.set t.toNat ((p.threads.getD t.toNat []).insertIdx x.toNat o)) = p' := by simpa using h
    have h2 := hs.lt
    refine ⟨hs.thr (by simp; omega) (fun i => ?_), by show 0 < (p.threads.set t.toNat _).length; simp; omega⟩
    rw [getD_set_op _ _ _ _ (by omega)]
    split
    · rw [List.length_insertIdx]
      split <;> omega
    · exact hs.inn i
  · cases h

end Go.Proofs.Ytnobkdkfhgjeeaa
