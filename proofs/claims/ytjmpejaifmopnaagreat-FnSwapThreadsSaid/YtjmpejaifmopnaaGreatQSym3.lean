/- Part of a proof: Sym3. -/
import Derived.Test.YtjmpejaifmopnaaGreatQSym2
import Derived.Test.YtjmpejaifmopnaaGreatQCutPlain
import Derived.Test.YtjmpejaifmopnaaGreatQIEnd
set_option maxRecDepth 100000
set_option maxHeartbeats 16000000
namespace Go.Proofs.YtjmpejaifmopnaaGreat
open Go.RowKit
theorem sw_sw {α:Type} (d:α) (l:List α) {a b:Nat} (ha:a<l.length) (hb:b<l.length):swapTs d (swapTs d l a b) a b=l:=by
 refine List.ext_getElem (by simp[swapTs_len]) fun k h1 h2=> ?_
 have e1:∀(m:List α) (h:k<m.length),m[k]=m.getD k d:=fun m h=>by simp[List.getD,h]
 rw[e1 _ h1,e1 _ h2,sw_get d _ (by rw[swapTs_len];exact ha) (by rw[swapTs_len];exact hb),sw_get d l ha hb,ex_ex]
theorem swap_some {p q:Pg} {x y:Int} (h:swapThreads p x y=some q):progValid p=true∧progValid q=true∧swapThreads q x y=some p∧∃a b:Nat,x=a∧y=b∧a<p.threads.length∧b<p.threads.length∧q=symP a b p:=by
 obtain⟨hv,⟨a,rfl,ha⟩,hr⟩:=change_some h
 unfold swapRes at hr
 split at hr
 ·next hc=>
  obtain⟨b,rfl⟩:=Int.eq_ofNat_of_zero_le hc.1
  have hb:b<p.threads.length:=by have:=hc.2;omega
  have e:q=symP a b p:=by simpa[symP] using(Option.some.inj hr).symm
  have hv':=valid_ops hv
  have hq:progValid q=true:=by
   rw[e]
   refine valid_thr_of hv (by rw[swapTs_len];exact hv'.1) (by rw[swapTs_len];exact hv'.2.1) (fun t ht=> ?_)
   obtain⟨k,hk,rfl⟩:=List.mem_iff_getElem.1 ht
   have hk':k<p.threads.length:=by simpa[swapTs_len] using hk
   have hx:=(ex_lt (i:=k) ha hb).2 hk'
   have e1:(swapTs [] p.threads a b)[k]=p.threads[ex a b k]:=by
    have e2:(swapTs [] p.threads a b)[k]=(swapTs [] p.threads a b).getD k []:=by simp[List.getD,hk]
    rw[e2,sw_get [] _ ha hb]
    simp[List.getD,hx]
   rw[e1]
   exact hv'.2.2 _ (List.getElem_mem hx)
  have hl:q.threads.length=p.threads.length:=by rw[e];exact swapTs_len _ _ _ _
  refine⟨hv,hq,?_,a,b,rfl,rfl,ha,hb,e⟩
  unfold swapThreads changeP swapRes
  rw[if_pos ⟨hq,by omega,by rw[hl];omega⟩,if_pos ⟨by omega,by rw[hl];omega⟩,e]
  show some ((symP a b p).thr (swapTs [] (swapTs [] p.threads a b) (a:Int).toNat (b:Int).toNat))=_
  rw[Int.toNat_natCast,Int.toNat_natCast,sw_sw [] _ ha hb]
  rfl
 ·cases hr
theorem ready_sym {a b:Nat} {p:Pg} {s:StD} (h:Two a b p s):(readyOf (symS a b s)).length=0↔(readyOf s).length=0:=by
 rw[List.length_eq_zero_iff,List.length_eq_zero_iff]
 refine⟨fun e=>List.eq_nil_iff_forall_not_mem.2 fun t ht=> ?_,sym_none h⟩
 have:=sym_ready h ht
 rw[e] at this
 cases this
theorem endS_sym {a b:Nat} {p:Pg} {s:StD} (h:Two a b p s):endS (symS a b s)=endS s:=by
 have h1:overB (symS a b s)=overB s:=by unfold overB;rw[sym_all h];rfl
 have h2:stuckB (symS a b s)=stuckB s:=by
  unfold stuckB
  rw[sym_all h,decide_eq_decide.2 (ready_sym h)]
  rfl
 unfold endS
 rw[h1,h2]
 rfl
end Go.Proofs.YtjmpejaifmopnaaGreat
