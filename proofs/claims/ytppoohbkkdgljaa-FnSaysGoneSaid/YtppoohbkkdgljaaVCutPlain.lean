/- Part of a proof: CutPlain. -/
import Derived.Test.YtppoohbkkdgljaaVPTally
set_option maxRecDepth 100000
set_option maxHeartbeats 16000000
namespace Go.Proofs.Ytppoohbkkdgljaa
open Go.RowKit
theorem zhX {p : Pg} {ts : List (List OpD)} (h : zq p = true) (h1 : 1 ≤ ts.length) (h4 : ts.length ≤ 4) (hm : ∀ t ∈ ts, t.length ≤ 8 ∧ ∀ o ∈ t, zF p o = true) : zq (p.thr ts) = true := by
 unfold zq at *
 simp only [Bool.and_eq_true, decide_eq_true_eq, List.all_eq_true] at *
 exact ⟨⟨⟨h.1.1.1, h1⟩, h4⟩, fun t ht => ⟨(hm t ht).1, fun o ho => (hm t ht).2 o ho⟩⟩
theorem zjs {p : Pg} (h : zq p = true) : 1 ≤ p.threads.length ∧ p.threads.length ≤ 4 ∧ ∀ t ∈ p.threads, t.length ≤ 8 ∧ ∀ o ∈ t, zF p o = true := by
 unfold zq at h
 simp only [Bool.and_eq_true, decide_eq_true_eq, List.all_eq_true] at h
 exact ⟨by omega, by omega, h.2⟩
theorem zjG (k : Nat) : Few noPg k := ⟨by simp [noPg], by simp [noPg], by simp [noPg], by simp [noPg], by simp [noPg], by simp [noPg]⟩
end Go.Proofs.Ytppoohbkkdgljaa
