/- Part of a proof: RL8. -/
import Derived.Test.YtfclolgfegdfjaaGreatVPRk
import Derived.Test.YtfclolgfegdfjaaGreatVPMachK
set_option maxRecDepth 100000
set_option maxHeartbeats 16000000
namespace Go.Proofs.YtfclolgfegdfjaaGreat
open Go.RowKit
theorem Vk (R:Nat) (a:uQ) (n c:Nat) (bs:List Int) (pos:Int) (w:World) (h:jD w R a n c bs pos) (hp:pos<=1099511600000):
  Calls Tryz.prog 80 #[.pointer (some ⟨R,0,none⟩)] w λe w'=>∃(a2:uQ) (m c2:Nat) (xs:List Int) (a0:Int),e= .returned (.slice a2 m c2)/\w'.ownsRow w.heap.size 3 1 (.slice a2 m c2) m (zf xs)/\m<=16/\jD w' R a n c bs a0/\a0<=pos+18/\w.grownBy w' (some R):=by
 have n0:=h.lt;have b0:xW w ((w.alloc (.cells #[] 3)).alloc (.cells (zf [6,4,10,2,0,15]).toArray 3)):=(zY).alloc jv _;have k1:zm ((w.alloc (.cells #[] 3)).alloc (.cells (zf [6,4,10,2,0,15]).toArray 3)) (w.heap.size+1) (zf [6,4,10,2,0,15]).toArray 3:=by have:=zm.new (w.alloc (.cells #[] 3)) (zf [6,4,10,2,0,15]).toArray 3;simpa using this
 have o0:=zl (yg w 3 1) ((Below.refl (w.alloc (.cells #[] 3)).heap.size _).alloc yk (.cells (zf [6,4,10,2,0,15]).toArray 3));have h1:=h.below b0;have G0:=zW b0 (some R);clear b0 h;go_enter Tryz.func80,Tryz.ntmps80;go_wp2_with fail;refine(QD R a n c bs pos 6 [6,4,10,2,0,15] _ h1 jq rfl jq jq (w.heap.size+1) _ k1 rfl jq).mono ?_;rintro e w1 ⟨v,rfl,hv,h2,g1⟩;have G1:=zi G0 g1;have i0:0<=v/\v<=15:=by simp at hv;omega
 have o1:=zk o0 g1 (by simp[zj];omega);obtain⟨V,rfl⟩:=Int.eq_ofNat_of_zero_le i0.1;clear G0 g1 h1 k1 o0 hv;go_wp2
 go_loopw [3,4] (λq i wr=>∃(k:Nat) (a2:uQ) (m c2:Nat) (xs:List Int) (a0:Int),q= .slice a2 m c2/\i=uy k/\m+k<=15/\wr.ownsRow w.heap.size 3 1 (.slice a2 m c2) m (zf xs)/\jD wr R a n c bs a0/\a0+k<=pos+16/\w.grownBy wr (some R)) (λ_ i _=>(intOf i).toNat)
 case atStart=>exact⟨V,_,_,_,[],_,rfl,rfl,jq,o1,h2,jq,G1⟩
 case round=>
  clear o1 h2 G1 i0;obtain⟨k,a2,m,c2,xs,a0,rfl,rfl,hm,own,h,m0,G⟩:=hrel;by_cases hk:0<k
  ·go_wp2_with fail;refine(qK R a n c bs a0 4 _ h jq jq).mono ?_;rintro e w2 ⟨x,rfl,hx,h2,g2,-⟩;have d0:=zk own g2 (λq h1 h3=>by have:=(zy own q h1).1;cases h3;omega);have G2:=zi G g2;clear own h G g2;have b3:xW w2 (w2.alloc (.cells #[uy x] 3)):=zY;have c0:=zl d0 b3;have h3:=h2.below b3;have G3:=zi G2 (zW b3 (some R));have kb:zm (w2.alloc (.cells #[uy x] 3)) w2.heap.size #[uy x] 3:=zm.new _ _ _;have h0:w.heap.size<=(w2.alloc (.cells #[uy x] 3)).heap.size:=G3.size;clear d0 h2 G2 b3;go_wp2_with (at_builtin;refine yP (news:=zf [(x:Int)]) rfl _ _ _ rfl Tryz.underlying23 yb rfl jk rfl c0 rfl rfl (Rd.of_blk kb) (yA _) jq jk h0 ?_;intro a9 c9 w9 f0 g0 l0)
   go_roundw
   case rel=>exact⟨k-1,a9,m+1,c9,xs++[(x:Int)],a0+1,rfl,by go_num,jq,by rw[xy];exact f0,h3.gr g0 (λq hq=>by have:=(zy c0 q hq).1;omega),jq,xe G3 g0 (λq hq=>(zy c0 q hq).1)⟩
   case measure=>exact uq
  ·have k0:k=0:=jq;subst k0;go_wp2_with fail;refine(qK R a n c bs a0 24 _ h jq jq).mono ?_;rintro e w2 ⟨x,rfl,hx,h2,g2,-⟩;have d0:=zk own g2 (λq h1 h3=>by have:=(zy own q h1).1;cases h3;omega);have G2:=zi G g2;clear own h G g2;by_cases j0:x=0
   ·have t0:((x:Int)==0)=true:=by rw[j0];rfl
    have b3:xW w2 (w2.alloc (.cells #[uy (-1)] 3)):=zY;have c0:=zl d0 b3;have h3:=h2.below b3;have G3:=zi G2 (zW b3 (some R));have kb:zm (w2.alloc (.cells #[uy (-1)] 3)) w2.heap.size #[uy (-1)] 3:=zm.new _ _ _;have h0:w.heap.size<=(w2.alloc (.cells #[uy (-1)] 3)).heap.size:=G3.size;clear d0 h2 G2 b3;go_wp2_with (at_builtin;refine yP (news:=zf [(-1:Int)]) rfl _ _ _ rfl Tryz.underlying23 yb rfl jk rfl c0 rfl rfl (Rd.of_blk kb) (yA _) jq jk h0 ?_;intro a9 c9 w9 f0 g0 l0);go_ret;exact⟨a9,m+1,c9,xs++[-1],a0+1,rfl,by rw[xy];exact f0,jq,h3.gr g0 (λq hq=>by have:=(zy c0 q hq).1;omega),jq,xe G3 g0 (λq hq=>(zy c0 q hq).1)⟩
   ·have t0:((x:Int)==0)=false:=(by simpa using j0);go_wp2;go_ret;exact⟨a2,m,c2,xs,a0+1,rfl,d0,jq,h2,jq,G2⟩
end Go.Proofs.YtfclolgfegdfjaaGreat
