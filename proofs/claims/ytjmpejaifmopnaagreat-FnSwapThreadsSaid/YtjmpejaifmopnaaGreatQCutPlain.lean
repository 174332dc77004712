/- Part of a proof: CutPlain. -/
import Derived.Test.YtjmpejaifmopnaaGreatQPTally
set_option maxRecDepth 100000
set_option maxHeartbeats 16000000
namespace Go.Proofs.YtjmpejaifmopnaaGreat
open Go.RowKit
theorem valid_thr_of {p:Pg} {ts:List (List OpD)} (h:progValid p=true) (h1:1≤ts.length) (h4:ts.length≤4) (hm:∀t∈ts,t.length≤8∧∀o∈t,opValid p o=true):progValid (p.thr ts)=true:=by
 unfold progValid at*
 simp only[Bool.and_eq_true,decide_eq_true_eq,List.all_eq_true] at*
 exact⟨⟨⟨h.1.1.1,h1⟩,h4⟩,fun t ht=>⟨(hm t ht).1,fun o ho=>(hm t ht).2 o ho⟩⟩
theorem valid_ops {p:Pg} (h:progValid p=true):1≤p.threads.length∧p.threads.length≤4∧∀t∈p.threads,t.length≤8∧∀o∈t,opValid p o=true:=by
 unfold progValid at h
 simp only[Bool.and_eq_true,decide_eq_true_eq,List.all_eq_true] at h
 exact⟨by omega,by omega,h.2⟩
theorem change_some {p q:Pg} {t:Int} {r:Option Pg} (h:changeP p t r=some q):progValid p=true∧(∃i:Nat,t=i∧i<p.threads.length)∧r=some q:=by
 unfold changeP at h
 split at h
 ·next hc=>
  obtain⟨h1,h2,h3⟩:=hc
  obtain⟨i,rfl⟩:=Int.eq_ofNat_of_zero_le h2
  exact⟨h1,⟨i,rfl,by omega⟩,h⟩
 ·cases h
theorem few_noPg (k:Nat):Few noPg k:=⟨by simp[noPg],by simp[noPg],by simp[noPg],by simp[noPg],by simp[noPg],by simp[noPg]⟩
end Go.Proofs.YtjmpejaifmopnaaGreat
