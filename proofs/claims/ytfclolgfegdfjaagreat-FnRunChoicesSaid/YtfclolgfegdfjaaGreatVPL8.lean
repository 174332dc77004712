/- Part of a proof: RChq RL8K RL8T. -/
import Derived.Test.YtfclolgfegdfjaaGreatVRPick
import Derived.Test.YtfclolgfegdfjaaGreatVRL8
set_option maxRecDepth 100000
set_option maxHeartbeats 16000000
namespace Go.Proofs.YtfclolgfegdfjaaGreat
open Go.RowKit
variable {s:zp} {p:Pg} {tr:List Int}
def pG (w:World) (n:Nat) (e:Ending) (w':World):Prop:=∃(v:zu) (a:uQ) (m c:Nat) (tr:List Int) (b:Bool),e= .returned (.tuple #[.agg (rC v a m c),.bool b])/\w'.ownsRow w.heap.size 3 1 (.slice a m c) m (zf tr)/\m<=n/\xW w w'
theorem dT {T:List Int}:∀(n:Nat) (s0:zp) (t0:List Int),xg p (qo T) n s0 t0=some (s,tr)->t0.length<=T.length->tr.length<=T.length:=by
 intro n
 induction n with
 |zero=>intro s0 t0 h;cases h
 |succ n ih=>
  intro s0 t0 h hl;unfold xg at h;split at h
  ·obtain⟨-,rfl⟩:=Prod.mk.inj (Option.some.inj h);exact hl
  ·next t e=>
   split at h
   ·refine ih _ _ h ?_;unfold qo at e;split at e
    ·cases e
    ·next hq=>rw[xp];show t0.length+1<=T.length;omega
   ·cases h
theorem tB {T:List Int} (h:qL p T=some (s,tr)):tr.length<=T.length:=by
 unfold qL xn at h;split at h
 ·split at h
  ·exact dT _ _ _ h (Nat.zero_le _)
  ·cases h
 ·cases h
theorem GI (u:PV) (p:Pg) (a:uQ) (n c:Nat) (cs:List Int) (w:World) (hp:yK w u p) (hz:xH u p) (hr:Rd w a (zf cs)) (hl:cs.length=n) (hn:n<=1048576):
  Calls Tryz.prog 32 #[.agg (zF u),.slice a n c] w (pG w n):=
 (Vn u p a n c cs w hp hz hr hl hn).mono λe w' h=>by
  rcases h with ⟨-,rfl,F⟩|⟨s,tr,v,L,a2,c2,ho,rfl,h⟩
  ·exact⟨kv,none,0,0,[],false,rfl,jf _ _ _ _,Nat.zero_le _,F.bel⟩
  ·exact⟨v,a2,tr.length,c2,tr,true,rfl,h.fr.own 0 rfl,by rw[<-hl];exact tB ho,h.bel⟩
structure Jd where
 s:zu
 a:Option Addr
 m:Nat
 c:Nat
 tr:List Int
 b:Bool
def Jd.cs (q:Jd):Array Value:= #[.slice q.s.pl.a q.s.pl.n q.s.pl.c,.slice q.s.st.a q.s.st.n q.s.st.c,.slice q.s.se.a q.s.se.n q.s.se.c,.slice q.s.on.a q.s.on.n q.s.on.c,.slice q.s.gr.a q.s.gr.n q.s.gr.c,.slice q.s.ba.a q.s.ba.n q.s.ba.c,.slice q.s.ch.a q.s.ch.n q.s.ch.c,.slice q.s.sa.a q.s.sa.n q.s.sa.c,uy q.s.fl,.slice q.a q.m q.c]
def Jd.tup (q:Jd):Value:= .tuple #[.agg q.cs,.bool q.b]
structure ur (W0:World) (R:Nat) (a:Option Addr) (n c:Nat) (bs:List Int) (pos:Int) (P0:Value) (L:Nat->Bool) (σ:Nat->Value) (w:World):Prop where
 k0:L 0=true->σ 0=P0
 k1:L 1=true->σ 1= .pointer (some ⟨R,0,none⟩)
 rd:∃pos1,jD w R a n c bs pos1/\pos1<=pos+18/\(L 2=false->pos1<=pos)
 gr:W0.grownBy w (some R)
 k2:L 2=true->L 3=false->∃a2 m c2 xs,σ 2= .slice a2 m c2/\Rd w a2 (zf xs)/\xs.length=m/\m<=16
 d4:L 4=true->L 3=true
 d5:L 5=true\/L 6=true\/L 8=true->L 4=true
 d8:L 8=true->L 7=true
 q:∃q:Jd,(L 3=true->σ 3=q.tup/\w.ownsRow W0.heap.size 3 1 (.slice q.a q.m q.c) q.m (zf q.tr)/\q.m<=16)/\(L 4=true->σ 4=q.tup)/\(L 5=true->σ 5= .agg q.cs)/\(L 6=true->σ 6= .bool q.b)/\(L 7=true->∃g,W0.heap.size<=g/\σ 7= .pointer (some ⟨g,0,none⟩)/\zm w g (if L 8=true then q.cs else yS) 40)
section
variable {W0:World} {R:Nat} {a:uQ} {n c:Nat} {bs:List Int} {pos:Int} {P0:Value} {L:Nat->Bool} {σ:Nat->Value} {w:World}
theorem ur.cong:∀L L' σ σ' w,(∀j,j<10->L j=L' j)->(∀j,j<10->L j=true->σ j=σ' j)->ur W0 R a n c bs pos P0 L σ w->ur W0 R a n c bs pos P0 L' σ' w:=by
 intro L L' σ σ' w hL hs h;obtain⟨k0,k1,rd,gr,k2,d4,d5,d8,q,q3,q4,q5,q6,q7⟩:=h;have e0:=hL 0 jq;have e1:=hL 1 jq;have e2:=hL 2 jq;have e3:=hL 3 jq;have e4:=hL 4 jq;have e5:=hL 5 jq;have e6:=hL 6 jq;have e7:=hL 7 jq;have e8:=hL 8 jq;refine⟨?_,?_,?_,gr,?_,?_,?_,?_,q,?_,?_,?_,?_,?_⟩
 ·rw[<-e0];exact λe=>(hs 0 jq e).symm.trans (k0 e)
 ·rw[<-e1];exact λe=>(hs 1 jq e).symm.trans (k1 e)
 ·rw[<-e2];exact rd
 ·rw[<-e2,<-e3];intro e h;rw[<-hs 2 jq e];exact k2 e h
 ·rw[<-e4,<-e3];exact d4
 ·rw[<-e4,<-e5,<-e6,<-e8];exact d5
 ·rw[<-e7,<-e8];exact d8
 ·rw[<-e3];intro e;rw[<-hs 3 jq e];exact q3 e
 ·rw[<-e4];exact λe=>(hs 4 jq e).symm.trans (q4 e)
 ·rw[<-e5];exact λe=>(hs 5 jq e).symm.trans (q5 e)
 ·rw[<-e6];exact λe=>(hs 6 jq e).symm.trans (q6 e)
 ·rw[<-e7,<-e8];intro e;rw[<-hs 7 jq e];exact q7 e
theorem ur.start (h:jD W0 R a n c bs pos) (σ:Nat->Value):ur W0 R a n c bs pos P0 (λ_=>false) σ W0.drew:=by
 have hb:xW W0 W0.drew:=xd.drew;exact⟨nofun,nofun,⟨pos,h.below hb,jq,λ_=>Int.le_refl _⟩,zW hb _,nofun,nofun,jv,nofun,⟨kv,none,0,0,[],true⟩,nofun,nofun,nofun,nofun,nofun⟩
theorem ur.val (h:ur W0 R a n c bs pos P0 L σ w) (k:Nat) (u:Value) (hk:(k=0/\u=P0)\/(k=1/\u= .pointer (some ⟨R,0,none⟩))\/k=9):ur W0 R a n c bs pos P0 (λj=>decide (j=k)||L j) (λj=>if j=k then u else σ j) w:=by
 obtain⟨k0,k1,rd,gr,k2,d4,d5,d8,q⟩:=h;rcases hk with ⟨rfl,rfl⟩|⟨rfl,rfl⟩|rfl
 ·exact⟨jv,by simpa using k1,by simpa using rd,gr,by simpa using k2,by simpa using d4,by simpa using d5,by simpa using d8,by simpa using q⟩
 ·exact⟨by simpa using k0,jv,by simpa using rd,gr,by simpa using k2,by simpa using d4,by simpa using d5,by simpa using d8,by simpa using q⟩
 ·exact⟨by simpa using k0,by simpa using k1,by simpa using rd,gr,by simpa using k2,by simpa using d4,by simpa using d5,by simpa using d8,by simpa using q⟩
theorem ur.mv (h:ur W0 R a n c bs pos P0 L σ w) (e:L 3=true):∃q:Jd,σ 3=q.tup/\ur W0 R a n c bs pos P0 (λj=>decide (j=4)||L j) (λj=>if j=4 then q.tup else σ j) w:=by
 obtain⟨k0,k1,rd,gr,k2,d4,d5,d8,q,q3,q4,q5,q6,q7⟩:=h;exact⟨q,(q3 e).1,by simpa using k0,by simpa using k1,by simpa using rd,gr,by simpa using k2,by simp[e],jv,by simpa using d8,q,by simpa using q3,jv,by simpa using q5,by simpa using q6,by simpa using q7⟩
theorem ur.ex (h:ur W0 R a n c bs pos P0 L σ w) (e:L 4=true):∃q:Jd,σ 4=q.tup/\ur W0 R a n c bs pos P0 (λj=>decide (j=5)||L j) (λj=>if j=5 then .agg q.cs else σ j) w/\ur W0 R a n c bs pos P0 (λj=>decide (j=6)||L j) (λj=>if j=6 then .bool q.b else σ j) w:=by
 obtain⟨k0,k1,rd,gr,k2,d4,d5,d8,q,q3,q4,q5,q6,q7⟩:=h;refine⟨q,q4 e,?_,?_⟩
 ·exact⟨by simpa using k0,by simpa using k1,by simpa using rd,gr,by simpa using k2,by simpa using d4,by simp[e],by simpa using d8,q,by simpa using q3,by simpa using q4,jv,by simpa using q6,by simpa using q7⟩
 ·exact⟨by simpa using k0,by simpa using k1,by simpa using rd,gr,by simpa using k2,by simpa using d4,by simp[e],by simpa using d8,q,by simpa using q3,by simpa using q4,by simpa using q5,jv,by simpa using q7⟩
theorem ur.ch (h:ur W0 R a n c bs pos P0 L σ w) (hR:R<W0.heap.size) (e2:L 2=false) (e3:L 3=false):∃a0,jD w R a n c bs a0/\a0<=pos/\∀(a2:uQ) (m c2:Nat) (xs:List Int) (b0:Int) (w':World),w'.ownsRow w.heap.size 3 1 (.slice a2 m c2) m (zf xs)->m<=16->jD w' R a n c bs b0->b0<=a0+18->w.grownBy w' (some R)->ur W0 R a n c bs pos P0 (λj=>decide (j=2)||L j) (λj=>if j=2 then .slice a2 m c2 else σ j) w':=by
 obtain⟨k0,k1,⟨a0,hr,hp,c0⟩,gr,k2,d4,d5,d8,q,q3,q4,q5,q6,q7⟩:=h;have e4:L 4=false:=by cases h:L 4 with
  |false=>rfl
  |true=>rw[d4 h] at e3;cases e3
 have e5:∀P:Prop,L 5=true\/L 6=true\/L 8=true->P:=λP h=>by rw[d5 h] at e4;cases e4
 refine⟨a0,hr,c0 e2,λa2 m c2 xs b0 w' ho hm h0 i0 hg=>⟨by simpa using k0,by simpa using k1,⟨b0,h0,by have:=c0 e2;omega,jv⟩,zi gr hg,λ_ _=>⟨a2,m,c2,xs,jv,Rd.of_owns ho,by have:=ho.1;simpa using this,hm⟩,by simpa using d4,by simpa using d5,by simpa using d8,q,by simp[e3],by simp[e4],by simpa using q5,by simpa using q6,?_⟩⟩;intro e;obtain⟨g,d0,f0,g0⟩:=q7 (by simpa using e);refine⟨g,d0,by simpa using f0,?_⟩;have:=g0.grown hg (by simp;omega);simpa using this
theorem ur.run (h:ur W0 R a n c bs pos P0 L σ w) (e2:L 2=true) (e3:L 3=false):W0.grownBy w (some R)/\∃(a2:uQ) (m c2:Nat) (xs:List Int),σ 2= .slice a2 m c2/\Rd w a2 (zf xs)/\xs.length=m/\m<=16/\∀e w',pG w m e w'->∃u,e= .returned u/\ur W0 R a n c bs pos P0 (λj=>decide (j=3)||L j) (λj=>if j=3 then u else σ j) w':=by
 obtain⟨k0,k1,⟨a0,hr,hp,g0⟩,gr,k2,d4,d5,d8,q,q3,q4,q5,q6,q7⟩:=h;have e4:L 4=false:=by cases h:L 4 with
  |false=>rfl
  |true=>rw[d4 h] at e3;cases e3
 have e5:∀P:Prop,L 5=true\/L 6=true\/L 8=true->P:=λP h=>by rw[d5 h] at e4;cases e4
 obtain⟨a2,m,c2,xs,hs,hd,hl,hm⟩:=k2 e2 e3;refine⟨gr,a2,m,c2,xs,hs,hd,hl,hm,λe w' h=> ?_⟩;obtain⟨v,xL,mt,ct,tr,b,rfl,ho,f0,hb⟩:=h;refine⟨_,rfl,by simpa using k0,by simpa using k1,⟨a0,hr.below hb,hp,by simp[e2]⟩,zi gr (zW hb _),jv,jv,?_,by simpa using d8,⟨v,xL,mt,ct,tr,b⟩,λ_=>⟨by simp[Jd.tup,Jd.cs],zw ho gr.size,by show mt<=16;omega⟩,by simp[e4],?_,?_,?_⟩
 ·intro h;exact e5 _ (by simpa using h)
 ·intro h;exact e5 _ (.inl (by simpa using h))
 ·intro h;exact e5 _ (.inr (.inl (by simpa using h)))
 ·intro e;obtain⟨g,b0,c0,d0⟩:=q7 (by simpa using e);refine⟨g,b0,by simpa using c0,?_⟩;have:=d0.below hb;have e8:L 8=false:=by cases h:L 8 with
   |false=>rfl
   |true=>exact e5 _ (.inr (.inr h))
  simpa[e8] using this
theorem ur.al (h:ur W0 R a n c bs pos P0 L σ w) (e8:L 8=false):ur W0 R a n c bs pos P0 (λj=>decide (j=7)||L j) (λj=>if j=7 then .pointer (some ⟨w.heap.size,0,none⟩) else σ j) (w.alloc (.cells yS 40)):=by
 obtain⟨k0,k1,⟨a0,hr,hp,b0⟩,gr,k2,d4,d5,d8,q,q3,q4,q5,q6,q7⟩:=h;have hb:xW w (w.alloc (.cells yS 40)):=zY;refine⟨by simpa using k0,by simpa using k1,⟨a0,hr.below hb,hp,by simpa using b0⟩,zi gr (zW hb _),?_,by simpa using d4,by simpa using d5,jv,q,?_,by simpa using q4,by simpa using q5,by simpa using q6,λ_=>⟨w.heap.size,gr.size,jv,?_⟩⟩
 ·intro e2 e3;obtain⟨a2,m,c2,xs,hs,hd,hl⟩:=k2 (by simpa using e2) (by simpa using e3);exact⟨a2,m,c2,xs,by simpa using hs,hd.below hb,hl⟩
 ·intro e;obtain⟨h1,h2,h3⟩:=q3 (by simpa using e);exact⟨by simpa using h1,zl h2 hb,h3⟩
 ·have:=zm.new w yS 40;simpa[e8] using this
theorem ur.st (h:ur W0 R a n c bs pos P0 L σ w) (hR:R<W0.heap.size) (e5:L 5=true) (e7:L 7=true) (e8:L 8=false):∃(q:Jd) (g:Nat),σ 5= .agg q.cs/\σ 7= .pointer (some ⟨g,0,none⟩)/\zm w g yS 40/\∀u,ur W0 R a n c bs pos P0 (λj=>decide (j=8)||L j) (λj=>if j=8 then u else σ j) (w.setRow g q.cs):=by
 obtain⟨k0,k1,⟨b0,hr,hp,f0⟩,gr,k2,d4,d5,d8,q,q3,q4,q5,q6,q7⟩:=h;obtain⟨g,c0,d0,a0⟩:=q7 e7;rw[if_neg (by simp[e8])] at a0;have hg:w.grownBy (w.setRow g q.cs) (some g):=⟨rfl,rfl,rfl,jv,λi _ hi=>setRow_other _ _ _ _ λe=>hi (by rw[e])⟩
 have e4:=d5 (.inl e5);refine⟨q,g,q5 e5,d0,a0,λu=>⟨by simpa using k0,by simpa using k1,⟨b0,hr.gr hg λk e=>by cases e;omega,hp,by simpa using f0⟩,xe gr hg λk e=>by cases e;exact c0,by simp[d4 e4],by simpa using d4,by simp[e4],by simp[e7],q,?_,by simpa using q4,by simpa using q5,by simpa using q6,λ_=>⟨g,c0,by simpa using d0,?_⟩⟩⟩
 ·intro e;obtain⟨h1,h2,h3⟩:=q3 (by simpa using e);exact⟨by simpa using h1,zk h2 hg (λq h1 h3=>by cases h3;exact yd a0 h2 jk h1),h3⟩
 ·rw[if_pos jv];exact setRow_heap _ _ _ _ _ _ a0
end
theorem DH (xs:List Int) (j:Nat) (x:Int):(zf xs).set j (uy x)=zf (xs.set j x):=by
 unfold zf;rw[List.map_set]
theorem V8 (a:uQ) (n c:Nat) (bs:List Int) (w:World) (hC:qw w a n c bs):
  Calls Tryz.prog 35 #[.slice a n c] w λe w'=>∃(v:PV) (vs:uZ) (p:Pg) (a2:uQ) (m c2:Nat) (xs:List Int),e= .returned (.tuple #[.agg (zF v),.slice a2 m c2])/\ZC w' w.heap.size v vs p 10/\w'.ownsRow w.heap.size 3 1 (.slice a2 m c2) m (zf xs)/\m<=16/\xW w w':=by
 have b0:xW w (w.alloc (.cells #[uk,uk,uk,uk,uk] 26)):=zY;have k0:zm (w.alloc (.cells #[uk,uk,uk,uk,uk] 26)) w.heap.size #[uk,uk,uk,uk,uk] 26:=zm.new _ _ _;have s0:(w.alloc (.cells #[uk,uk,uk,uk,uk] 26)).heap.size=w.heap.size+1:=jv;have E0:=hC.below b0;go_enter Tryz.func35,Tryz.ntmps35;go_wp2_with fail;refine E0.open.mono ?_;rintro e w1 ⟨rfl,n',g0,r1,b1,s1⟩;have k1:=k0.below b1;have B0:=zd (b0.trans (b1.mono b0.size));rw[s0] at r1 s1;have C0:=zd s1;clear b0 k0 b1 hC E0 s1;rw[s0];clear s0;go_wp2_with fail;refine(QX (w.heap.size+1) a n' c g0 0 w1 r1 jq).mono ?_;rintro e w2 ⟨v,vs,p,z0,rfl,o2,f2,z2,r2,U0,g2⟩;have s1:=C0.o;have s2:=g2.size;have k2:=k1.grown g2 jv;have m0:=zd (B0.o.trans (zG g2 jq (λi e=>by cases e;omega)));have b3:xW w2 (w2.alloc (.cells (zF v) 26)):=zY;have o3:ZC (w2.alloc (.cells (zF v) 26)) (w.heap.size+2) v vs p 9:=ZC.below ⟨o2,λq hq=>by have:=f2 q hq;omega,z2⟩ b3;have kp:zm (w2.alloc (.cells (zF v) 26)) w2.heap.size (zF v) 26:=zm.new _ _ _;have r3:=r2.below b3;have k3:=k2.below b3;replace m0:=zd (m0.out.trans (b3.mono jq));have s3:w.heap.size+2<(w2.alloc (.cells (zF v) 26)).heap.size:=by simp;omega
 have s4:w.heap.size+2<=w2.heap.size:=jq;clear r1 g2 k1 r2 k2 o2 f2 z2 C0 b3 s1 s2 B0;go_upto_region 3 with fail;generalize w2.alloc (.cells (zF v) 26)=W at*;have HW:=zd (And.intro o3 (And.intro r3 k3));clear o3 r3 k3;refine jd 10 (ur W (w.heap.size+1) a n' c g0 z0 (.agg (zF v))) ur.cong (λσ=>ur.start HW.o.2.1 σ) ?_ ?_
 ·refine⟨?_,?_,?_,?_,?_,?_,?_,?_,?_,?_,trivial⟩<;>intro ρ w3 L hI hw hny ho
  ·have c:=kp.grown hI.gr (by simp;omega);have y0:=c.cell 0 rfl;have y1:=c.cell 1 rfl;have y2:=c.cell 2 rfl;have y3:=c.cell 3 rfl;have y4:=c.cell 4 rfl;have d:ρ (.tmp 5)=_:=ho (.tmp 5) rfl;exact zh (by go_simp<;>rfl) (hI.val 0 _ (.inl ⟨rfl,rfl⟩))
  ·have d:ρ (.tmp 4)=_:=ho (.tmp 4) rfl;exact zh (by go_simp<;>rfl) (hI.val 1 _ (.inr (.inl ⟨rfl,rfl⟩)))
  ·obtain⟨o0,hr,hp,hk⟩:=hI.ch jq (hny 2 _ rfl rfl) (hny 3 _ rfl rfl);have d:ρ (.tmp 15)=_:=hI.k1 (hw 1 jk);have df:ρ (.func 80)=_:=ho (.func 80) rfl;exact zU (by go_simp<;>rfl) ((Vk _ _ _ _ _ _ _ hr jq).mono λe w' h=>by
    obtain⟨a2,m,c2,xs,A0,rfl,h1,h2,h3,h4,h5⟩:=h;exact⟨_,rfl,hk a2 m c2 xs A0 w' h1 h2 h3 h4 h5⟩)
  ·obtain⟨hG,a2,m,c2,xs,d2,hd,hl,hm,hk⟩:=hI.run (hw 2 jk) (hny 3 _ rfl rfl);replace d2:ρ (.tmp 16)=_:=d2;have d0:ρ (.tmp 14)=_:=hI.k0 (hw 0 jk);have df:ρ (.func 32)=_:=ho (.func 32) rfl;have o4:=HW.o.1.gr hG jq;have hc:Calls Tryz.prog 32 #[.agg (zF v),.slice a2 m c2] w3 (pG w3 m):=GI v p a2 m c2 xs w3 o4.own.rd (o4.small jq) hd hl jq;exact zU (by go_simp<;>rfl) (hc.mono hk)
  ·obtain⟨q,d,hk⟩:=hI.mv (hw 3 jk);replace d:ρ (.tmp 17)=_:=d;exact zh (by go_simp<;>rfl) hk
  ·obtain⟨q,d,hk,-⟩:=hI.ex (hw 4 jk);replace d:ρ (.tmp 13)= .tuple #[.agg q.cs,.bool q.b]:=d;exact zh (by go_simp<;>rfl) hk
  ·obtain⟨q,d,-,hk⟩:=hI.ex (hw 4 jk);replace d:ρ (.tmp 13)= .tuple #[.agg q.cs,.bool q.b]:=d;exact zh (by go_simp<;>rfl) hk
  ·exact zh (by go_simp<;>rfl) (hI.al (hny 8 _ rfl rfl))
  ·obtain⟨q,g,d5,d7,kb,hk⟩:=hI.st jq (hw 5 jk) (hw 7 jk) (hny 8 _ rfl rfl);replace d5:ρ (.tmp 18)=_:=d5;replace d7:ρ (.tmp 6)=_:=d7;refine qj (w':=w3.setRow g q.cs) ?_ (hk _);simp[execOp,d5,d7,Instr.storeAt,Instr.sureAddr,run_storeVar_row (P:=Tryz.prog) w3 g 40 40 yS q.cs kb (show(Tryz.prog.info? 40).map (·.size)=some 10 by kernel_rfl) rfl (by simp[Jd.cs,Value.oneCell'])]
  ·exact zh rfl (hI.val 9 _ (.inr (.inr rfl)))
 intro I0 w3 r0 hI;obtain⟨x0,x1,x2,x3,x4,x5,x6,x7,x8,x9,rfl⟩:∃x0 x1 x2 x3 x4 x5 x6 x7 x8 x9,I0=[x0,x1,x2,x3,x4,x5,x6,x7,x8,x9]:=by
  match I0,r0 with
  |[x0,x1,x2,x3,x4,x5,x6,x7,x8,x9],_=>exact⟨_,_,_,_,_,_,_,_,_,_,rfl⟩
 obtain⟨-,-,⟨o0,r4,V0,-⟩,G,-,-,-,-,q,q3,-,-,-,q7⟩:=hI;obtain⟨-,ow,hm⟩:=q3 rfl;obtain⟨g,hg,e7,kg⟩:=q7 rfl;obtain rfl:x7= .pointer (some ⟨g,0,none⟩):=e7;replace kg:zm w3 g q.cs 40:=kg;have yt:=kg.cell 9 rfl;clear q3 q7;obtain⟨qs,qa,qm,qc,tr,qb⟩:=q;replace yt:w3.cell? ⟨g,9,none⟩=some (.slice qa qm qc):=yt;replace ow:w3.ownsRow W.heap.size 3 1 (.slice qa qm qc) qm (zf tr):=ow;replace hm:qm<=16:=hm;have HS:=zd (And.intro hg kg);clear kg;refine yv ?_;by_cases P0:0<qm
 ·go_wp2_with fail;refine(qK (w.heap.size+1) a n' c g0 o0 6 w3 r4 jq jq).mono ?_;rintro e w4 ⟨x,rfl,hx,r5,g5,-⟩;have j0:=zk ow g5 (λq h1 h3=>by have:=(zy ow q h1).1;cases h3;omega);have G5:=zi G g5;have R0:=((HS.o.2).grown g5 (by have:=HS.o.1;simp;omega)).cell 9 rfl;clear r4 g5 ow G yt;by_cases q0:x=0
  ·have t0:((x:Int)==0)=true:=by rw[q0];rfl
   clear q0 hx;go_wp2_with fail;refine(qK (w.heap.size+1) a n' c g0 _ qm w4 r5 jq jq).mono ?_;rintro e w5 ⟨j,rfl,hj,r6,g6,-⟩;have T0:j<qm:=jq;have b6:xW w5 (w5.alloc (.cells (zf [0,1,2,5,-1]).toArray 3)):=zY;have kn:zm (w5.alloc (.cells (zf [0,1,2,5,-1]).toArray 3)) w5.heap.size (zf [0,1,2,5,-1]).toArray 3:=zm.new _ _ _;have u0:=zl (zk j0 g6 (λq h1 h3=>by have:=(zy j0 q h1).1;cases h3;omega)) b6;have G6:=zi (zi G5 g6) (zW b6 _);have r7:=r6.below b6;have s6:=G5.size;have s7:=g6.size;clear r5 r6 g6 j0 G5 b6 t0 R0 hj;go_wp2_with fail;refine(QD (w.heap.size+1) a n' c g0 _ 5 [0,1,2,5,-1] _ r7 jq rfl jq jq w5.heap.size _ kn rfl jq).mono ?_;rintro e w6 ⟨z,rfl,-,r8,g8⟩;have l0:=zk u0 g8 (λq h1 h3=>by have:=(zy u0 q h1).1;cases h3;omega);have G8:=zi G6 g8;obtain⟨qg,rfl,X0,-⟩:=jF l0 P0;obtain⟨S0,e1,-⟩:=Q9 l0;have F0:=Rd.of_owns l0;have O0:(zf tr).length=qm:=by have:=l0.1;simpa using this
   have hl:tr.length=qm:=(by simpa using O0);obtain⟨b9,Y0,e9,D0⟩:=F0.int jq
   cases e9
   have y9:=D0 j jq;rw[Nat.zero_add] at y9;have f9:w6.frozen? ⟨qg,j,none⟩=false:=(by simp[World.frozen?,e1]);have S9:=vR l0 j (uy z) (DH tr j z);have r9:=r8.gr S9.2 (λk e=>by cases e;omega);have G9:=xe G8 S9.2 (λk e=>by cases e;omega);have v0:=S9.1;clear S9 r8 g8 l0 u0 G6 G8 r7 kn e1 D0 F0;go_upto_region 7 with fail;generalize w6.setCell ⟨qg,j,none⟩ (uy z)=w7 at*;have kq:=kp.grown G9 (by simp;omega);have y0:=kq.cell 0 rfl;have y1:=kq.cell 1 rfl;have y2:=kq.cell 2 rfl;have y3:=kq.cell 3 rfl;have y4:=kq.cell 4 rfl;have o4:=HW.o.1.gr G9 jq;go_wp2_with fail;refine(Yt (w.heap.size+1) a n' c g0 _ v p 9 w7 r9 jq o4.own.rd o4.few jq).mono ?_;rintro e w9 ⟨v',i0,p',p0,rfl,o9,h0,z9,-,-,g9⟩;have k9:=(HW.o.2.2.grown G9 jv).grown g9 jv;have f0:=zd (zk v0 g9 (λq h1 h3=>by have:=(zy v0 q h1).1;cases h3;omega));have c0:=zi G9 g9;have G0:=G9.size;have H0:=g9.size;have n0:=zd (m0.out.trans (zG c0 jq (λi e=>by cases e;omega)));have HO:uH (ZC w9 (w.heap.size+1) v' i0 p' 10):=zd ⟨o9,λq hq=>by have:=h0 q hq;omega,z9⟩;clear kq y0 y1 y2 y3 y4 o4 o9 h0 z9 g9 c0 G9 r9 v0;have y0:=k9.cell 0 rfl;have J0:=k9.fz 0;have y1:=k9.cell 1 rfl;have K0:=k9.fz 1;have y2:=k9.cell 2 rfl;have L0:=k9.fz 2
   have y3:=k9.cell 3 rfl;have M0:=k9.fz 3;have y4:=k9.cell 4 rfl;have N0:=k9.fz 4;have a0:uH (w9.grownBy (((((w9.setCell ⟨w.heap.size,0,none⟩ (.slice v'.s v'.ns v'.cs)).setCell ⟨w.heap.size,1,none⟩ (.slice v'.g v'.ng v'.cg)).setCell ⟨w.heap.size,2,none⟩ (.slice v'.b v'.nb v'.cb)).setCell ⟨w.heap.size,3,none⟩ (.slice v'.r v'.nr v'.cr)).setCell ⟨w.heap.size,4,none⟩ (.slice v'.t v'.nt v'.ct)) (some w.heap.size)):=zd (zi (zi (zi (zi (zv _ _ _ _) (zv _ _ _ _)) (zv _ _ _ _)) (zv _ _ _ _)) (zv _ _ _ _));go_wp2;refine zM (v:= .tuple #[.agg (zF v'),.slice (some ⟨qg,0,none⟩) qm qc]) (by simp[results,Tryz.results35,go_sem,y0,y1,y2,y3,y4]) rfl ⟨v',i0,p',(some ⟨qg,0,none⟩),qm,qc,tr.set j z,rfl,(HO.o.gr a0.out jq).mono jq,zw (zk f0.out a0.out (λq h1 h3=>by have:=(zy f0.out q h1).1;cases h3;omega)) jq,hm,n0.out.trans (zG a0.out jq (λi e=>by cases e;omega))⟩
  ·have t0:((x:Int)==0)=false:=(by simpa using q0);clear q0 hx;go_upto_region 7 with fail;have kq:=kp.grown G5 (by simp;omega);have y0:=kq.cell 0 rfl;have y1:=kq.cell 1 rfl;have y2:=kq.cell 2 rfl;have y3:=kq.cell 3 rfl;have y4:=kq.cell 4 rfl;have o4:=HW.o.1.gr G5 jq;go_wp2_with fail;refine(Yt (w.heap.size+1) a n' c g0 _ v p 9 w4 r5 jq o4.own.rd o4.few jq).mono ?_;rintro e w9 ⟨v',i0,p',p0,rfl,o9,h0,z9,-,-,g9⟩;have k9:=(HW.o.2.2.grown G5 jv).grown g9 jv;have f0:=zd (zk j0 g9 (λq h1 h3=>by have:=(zy j0 q h1).1;cases h3;omega));have c0:=zi G5 g9;have G0:=G5.size;have H0:=g9.size;have n0:=zd (m0.out.trans (zG c0 jq (λi e=>by cases e;omega)));have HO:uH (ZC w9 (w.heap.size+1) v' i0 p' 10):=zd ⟨o9,λq hq=>by have:=h0 q hq;omega,z9⟩;clear kq y0 y1 y2 y3 y4 o4 o9 h0 z9 g9 c0 G5 r5 j0;have y0:=k9.cell 0 rfl;have J0:=k9.fz 0;have y1:=k9.cell 1 rfl;have K0:=k9.fz 1;have y2:=k9.cell 2 rfl;have L0:=k9.fz 2;have y3:=k9.cell 3 rfl;have M0:=k9.fz 3;have y4:=k9.cell 4 rfl;have N0:=k9.fz 4
   have a0:uH (w9.grownBy (((((w9.setCell ⟨w.heap.size,0,none⟩ (.slice v'.s v'.ns v'.cs)).setCell ⟨w.heap.size,1,none⟩ (.slice v'.g v'.ng v'.cg)).setCell ⟨w.heap.size,2,none⟩ (.slice v'.b v'.nb v'.cb)).setCell ⟨w.heap.size,3,none⟩ (.slice v'.r v'.nr v'.cr)).setCell ⟨w.heap.size,4,none⟩ (.slice v'.t v'.nt v'.ct)) (some w.heap.size)):=zd (zi (zi (zi (zi (zv _ _ _ _) (zv _ _ _ _)) (zv _ _ _ _)) (zv _ _ _ _)) (zv _ _ _ _));go_wp2;refine zM (v:= .tuple #[.agg (zF v'),.slice qa qm qc]) (by simp[results,Tryz.results35,go_sem,y0,y1,y2,y3,y4]) rfl ⟨v',i0,p',qa,qm,qc,tr,rfl,(HO.o.gr a0.out jq).mono jq,zw (zk f0.out a0.out (λq h1 h3=>by have:=(zy f0.out q h1).1;cases h3;omega)) jq,hm,n0.out.trans (zG a0.out jq (λi e=>by cases e;omega))⟩
 ·have Q0:qm=0:=jq;subst Q0;go_upto_region 7 with fail;have kq:=kp.grown G (by simp;omega);have y0:=kq.cell 0 rfl;have y1:=kq.cell 1 rfl;have y2:=kq.cell 2 rfl;have y3:=kq.cell 3 rfl;have y4:=kq.cell 4 rfl;have o4:=HW.o.1.gr G jq;go_wp2_with fail;refine(Yt (w.heap.size+1) a n' c g0 _ v p 9 w3 r4 jq o4.own.rd o4.few jq).mono ?_;rintro e w9 ⟨v',i0,p',p0,rfl,o9,h0,z9,-,-,g9⟩;have k9:=(HW.o.2.2.grown G jv).grown g9 jv;have f0:=zd (zk ow g9 (λq h1 h3=>by have:=(zy ow q h1).1;cases h3;omega));have c0:=zi G g9;have G0:=G.size;have H0:=g9.size;have n0:=zd (m0.out.trans (zG c0 jq (λi e=>by cases e;omega)));have HO:uH (ZC w9 (w.heap.size+1) v' i0 p' 10):=zd ⟨o9,λq hq=>by have:=h0 q hq;omega,z9⟩;clear kq y0 y1 y2 y3 y4 o4 o9 h0 z9 g9 c0 G r4 ow;have y0:=k9.cell 0 rfl;have J0:=k9.fz 0;have y1:=k9.cell 1 rfl;have K0:=k9.fz 1;have y2:=k9.cell 2 rfl;have L0:=k9.fz 2;have y3:=k9.cell 3 rfl;have M0:=k9.fz 3;have y4:=k9.cell 4 rfl;have N0:=k9.fz 4
  have a0:uH (w9.grownBy (((((w9.setCell ⟨w.heap.size,0,none⟩ (.slice v'.s v'.ns v'.cs)).setCell ⟨w.heap.size,1,none⟩ (.slice v'.g v'.ng v'.cg)).setCell ⟨w.heap.size,2,none⟩ (.slice v'.b v'.nb v'.cb)).setCell ⟨w.heap.size,3,none⟩ (.slice v'.r v'.nr v'.cr)).setCell ⟨w.heap.size,4,none⟩ (.slice v'.t v'.nt v'.ct)) (some w.heap.size)):=zd (zi (zi (zi (zi (zv _ _ _ _) (zv _ _ _ _)) (zv _ _ _ _)) (zv _ _ _ _)) (zv _ _ _ _));go_wp2;refine zM (v:= .tuple #[.agg (zF v'),.slice qa 0 qc]) (by simp[results,Tryz.results35,go_sem,y0,y1,y2,y3,y4]) rfl ⟨v',i0,p',qa,0,qc,tr,rfl,(HO.o.gr a0.out jq).mono jq,zw (zk f0.out a0.out (λq h1 h3=>by have:=(zy f0.out q h1).1;cases h3;omega)) jq,hm,n0.out.trans (zG a0.out jq (λi e=>by cases e;omega))⟩
end Go.Proofs.YtfclolgfegdfjaaGreat
