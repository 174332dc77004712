/- Part of a proof: MarkP Marks MarkC MarkSt MarkRn EqSt. -/
import Derived.Test.YtnlijgjpgdjpiaaGreatQPMachK
set_option maxRecDepth 100000
set_option maxHeartbeats 16000000
namespace Go.Proofs.YtnlijgjpgdjpiaaGreat
open Go.RowKit
section
variable {α β:Type}
def mkL (f:Int->α->List β) (sz:α->Nat):Int->List α->List β
 |_,[]=>[]
 |k,x::xs=>f k x++mkL f sz (k+sz x) xs
def tot (sz:α->Nat):List α->Nat
 |[]=>0
 |x::xs=>sz x+tot sz xs
theorem zbQ (sz:α->Nat) (x:α):∀xs,tot sz (xs++[x])=tot sz xs+sz x
 |[]=>by simp[tot]
 |y::ys=>by simp only[List.cons_append,tot,zbQ sz x ys];omega
theorem zbP (f:Int->α->List β) (sz:α->Nat) (x:α):∀(k:Int) (xs:List α),mkL f sz k (xs++[x])=mkL f sz k xs++f (k+tot sz xs) x
 |k,[]=>by simp[mkL,tot]
 |k,y::ys=>by
  simp only[List.cons_append,mkL,tot,zbP f sz x (k+sz y) ys,xDg];rw[show k+(sz y:Int)+(tot sz ys:Int)=k+((sz y+tot sz ys:Nat):Int) by omega]
theorem zbx (f:Int->α->List β) (sz:α->Nat):∀(k:Int) (xs:List α) (j:Nat),mkL f sz k xs=mkL f sz k (xs.take j)++mkL f sz (k+tot sz (xs.take j)) (xs.drop j)
 |k,[],j=>by simp[mkL]
 |k,x::xs,0=>by simp[mkL,tot]
 |k,x::xs,j+1=>by
  simp only[List.take_succ_cons,List.drop_succ_cons,mkL,tot,xDg];rw[zbx f sz (k+sz x) xs j,show k+(sz x:Int)+(tot sz (xs.take j):Int)=k+((sz x+tot sz (xs.take j):Nat):Int) by omega]
theorem zb6 (f:Int->α->List β) (sz:α->Nat) (c:Nat) (hc:∀k x,(f k x).length=c):∀(k:Int) (xs:List α),(mkL f sz k xs).length=xs.length*c
 |_,[]=>by simp[mkL]
 |k,x::xs=>by simp only[mkL,xDh,hc,zb6 f sz c hc,List.length_cons,Nat.add_mul];omega
theorem zbh (sz:α->Nat) (xs:List α) (k:Nat):tot sz (xs.take k)<=tot sz xs:=by
 induction xs generalizing k with
 |nil=>simp
 |cons x xs ih=>
  cases k with
  |zero=>simp[tot]
  |succ k=>simp only[List.take_succ_cons,tot];have:=ih k;omega
theorem zb1 (l:List α) (d:α) {j:Nat} (hj:j<l.length):l.drop j=l.getD j d::l.drop (j+1):=by
 rw[List.drop_eq_getElem_cons hj];congr 1;simp[List.getD,hj]
theorem zb0 (l:List α) (d:α) {j:Nat} (hj:j<l.length):l.take (j+1)=l.take j++[l.getD j d]:=by
 rw[List.take_add_one,xDb hj];simp[List.getD,hj]
theorem zkX (A B:List α) {n:Nat} (h:A.length=n) (j:Nat):(A++B)[n+j]? =B[j]? :=by
 subst h;rw[List.getElem?_append_right (by omega)];congr 1;omega
theorem zkR (A B:List α) {n:Nat} (h:A.length=n) (j:Nat) (x:α):(A++B).set (n+j) x=A++B.set j x:=by
 subst h;rw[List.set_append_right _ _ (by omega)];congr 2;omega
end
theorem zcw (R z:It) (A D:List It):(R::(A++z::D)).Perm (z::R::(A++D)):=((List.perm_middle (a:=z) (l₁:=A) (l₂:=D)).cons R).trans (.swap _ _ _)
theorem Fr.headI {w W W':World} {l:List It} {a:Option Addr} {n c sz:Nat} {E:TypeId} {cs cs':List Value} (F:Fr w W (.row a n c E sz cs::l)) (h:W'.ownsRow w.heap.size E sz (.slice a n c) n cs') (hg:W.grownBy W' (ze a)):Fr w W' (.row a n c E sz cs'::l):=
 F.step 0 rfl (zi.of_grown hg λq hq=>by simp[It.foot,hq]) h λq hq=> .inl hq
theorem Fr.putA {w W:World} {l:List It} {n c sz:Nat} {g:Nat} {E:TypeId} {A B:List Value} (F:Fr w W (.row (some ⟨g,0,none⟩) n c E sz (A++B)::l)) {m:Nat} (hA:A.length=m) (j:Nat) (v:Value):Fr w (W.setCell ⟨g,m+j,none⟩ v) (.row (some ⟨g,0,none⟩) n c E sz (A++B.set j v)::l):=by
 have:=F.put 0 rfl rfl (m+j) v;rw[zkR A B hA] at this;exact this
theorem Fr.atA {w W:World} {l:List It} {n c sz:Nat} {g:Nat} {E:TypeId} {A B:List Value} (F:Fr w W (.row (some ⟨g,0,none⟩) n c E sz (A++B)::l)) {m:Nat} (hA:A.length=m) (j:Nat) {v:Value} (hv:B[j]? =some v):W.cell? ⟨g,m+j,none⟩=some v/\W.frozen? ⟨g,m+j,none⟩=false:=by
 have ho:W.ownsRow w.heap.size E sz (.slice (some ⟨g,0,none⟩) n c) n (A++B):=F.has _ (List.mem_cons_self ..);have hj:m+j<(A++B).length:=by
  obtain⟨h,-⟩:=xDs.1 hv;rw[xDh];omega
 refine⟨?_,ho.frozenAt (m+j)⟩;rw[ho.cellAt _ (by rw[<-ho.1];exact hj),zkX A B hA,hv]
theorem zgD (B n c:Nat) (a:Option Addr) (cs:List Value) (k0:Int) (w:World) (hn:n<=1099511627776) (hk0:0<=k0) (hk1:k0<=2199023255552)
  (h1:w.ownsRow B 167 2 (.slice a n c) n cs):
  Calls Tryz.prog 127 #[.slice a n c,.int .i64 k0] w λe w'=>e= .returned (.int .i64 (k0+(n*2:Nat)))/\
   w'.ownsRow B 167 2 (.slice a n c) n (ints (seq k0 (n*2)))/\w.grownBy w' (ze a):=by
 have HL:Hid (cs.length=n*2):=xH1 h1.1;go_enter Tryz.func127,Tryz.ntmps127;go_wp2
 go_loopw [1,5] (λq i wr=>∃k:Nat,k<=n/\i= .int .i64 k/\q= .int .i64 (k0+(k*2:Nat))/\wr.ownsRow B 167 2 (.slice a n c) n (ints (seq k0 (k*2))++cs.drop (k*2))/\w.grownBy wr (ze a)) (λ_ i _=>n-(intOf i).toNat)
 case atStart=>exact⟨0,by omega,rfl,by simp,by simpa[seq] using h1,World.grownBy.refl _ _⟩
 case round=>
  obtain⟨k,hk,rfl,rfl,hown,hgr⟩:=hrel;by_cases hlt:k<n
  ·obtain⟨g,rfl,_,_⟩:=zaf hown (by omega);have hL:=HL.out;obtain⟨old,hold⟩:∃old,wr.cell? ⟨g,k*2,none⟩=some old:=by
    rw[hown.cellAt _ (by omega)];exact⟨_,xDb (by rw[hown.1];omega)⟩
   obtain⟨old2,hold2⟩:∃old,wr.cell? ⟨g,k*2+1,none⟩=some old:=by
    rw[hown.cellAt _ (by omega)];exact⟨_,xDb (by rw[hown.1];omega)⟩
   have hfz:=hown.frozenAt (k*2);have hfz2:=hown.frozenAt (k*2+1);have R1:=zak hown (k*2) (.int .i64 (k0+(k*2:Nat))) (zbk k0 cs (k*2) (by omega));have R2:=zak R1.1 (k*2+1) (.int .i64 (k0+(k*2+1:Nat))) (zbk k0 cs (k*2+1) (by omega));have e1:k0+((k*2:Nat):Int)=k0+(k:Int)*2:=(by omega);have e2:k0+((k*2+1:Nat):Int)=k0+(k:Int)*2+1:=(by omega);rw[e1] at R1 R2;rw[e2] at R2;have HR1:=xH1 R1.2;have HR2:=xH1 R2;clear R1 R2 hown hL e1 e2;go_wp2
   go_roundw
   case rel=>exact⟨k+1,by omega,by go_num,by go_num,(by have:=HR2.out.1;rwa [show k*2+1+1=(k+1)*2 from by omega] at this),za5 hgr (za5 HR1.out HR2.out.2)⟩
   case measure=>simp[intOf];omega
  ·have hkn:k=n:=(by omega);subst hkn;go_wp2;go_ret;exact⟨rfl,by rw[List.drop_of_length_le (by have:=HL.out;omega)] at hown;simpa using hown,hgr⟩
theorem zgt (a:Option Addr) (c n m:Nat) (k0:Int) (w:World) (hm:m=n*2) (hn:n<=1099511627776) (hk0:0<=k0) (hk1:k0<=2199023255552)
  (h1:Rd w a (ints (seq k0 m))):
  Calls Tryz.prog 129 #[.slice a n c,.int .i64 k0] w λe w'=>e= .returned (.int .i64 (k0+m))/\w'=w:=by
 subst hm;go_enter Tryz.func129,Tryz.ntmps129;go_wp2
 go_loop [1,5] (λq i=>∃k:Nat,k<=n/\i= .int .i64 k/\q= .int .i64 (k0+(k*2:Nat))) (λ_ i=>n-(intOf i).toNat)
 case atStart=>exact⟨0,by omega,rfl,by simp⟩
 case round=>
  obtain⟨k,hk,rfl,rfl⟩:=hrel;by_cases hlt:k<n
  ·obtain⟨b1,o1,rfl,g1'⟩:=h1.int (by rw[zb9];omega);have g1:=g1' (k*2) (by rw[zb9];omega);have g2:=g1' (k*2+1) (by rw[zb9];omega);rw[zeO k0 (n*2) (k*2) (by omega),show k0+((k*2:Nat):Int)=k0+(k:Int)*2 from by omega] at g1;rw[zeO k0 (n*2) (k*2+1) (by omega),show k0+((k*2+1:Nat):Int)=k0+(k:Int)*2+1 from by omega,<-Nat.add_assoc] at g2;clear g1';go_wp2
   go_round
   case rel=>exact⟨k+1,by omega,by go_num,by go_num⟩
   case measure=>simp[intOf];omega
  ·have hkn:k=n:=(by omega);subst hkn;go_wp2;go_ret;exact⟨rfl,rfl⟩
theorem zgi (B n c:Nat) (a:Option Addr) (cs:List Value) (k0:Int) (w:World) (hn:n<=1099511627776) (hk0:0<=k0) (hk1:k0<=2199023255552)
  (h1:w.ownsRow B 187 2 (.slice a n c) n cs):
  Calls Tryz.prog 128 #[.slice a n c,.int .i64 k0] w λe w'=>e= .returned (.int .i64 (k0+(n*2:Nat)))/\
   w'.ownsRow B 187 2 (.slice a n c) n (ints (seq k0 (n*2)))/\w.grownBy w' (ze a):=by
 have HL:Hid (cs.length=n*2):=xH1 h1.1;go_enter Tryz.func128,Tryz.ntmps128;go_wp2
 go_loopw [1,5] (λq i wr=>∃k:Nat,k<=n/\i= .int .i64 k/\q= .int .i64 (k0+(k*2:Nat))/\wr.ownsRow B 187 2 (.slice a n c) n (ints (seq k0 (k*2))++cs.drop (k*2))/\w.grownBy wr (ze a)) (λ_ i _=>n-(intOf i).toNat)
 case atStart=>exact⟨0,by omega,rfl,by simp,by simpa[seq] using h1,World.grownBy.refl _ _⟩
 case round=>
  obtain⟨k,hk,rfl,rfl,hown,hgr⟩:=hrel;by_cases hlt:k<n
  ·obtain⟨g,rfl,_,_⟩:=zaf hown (by omega);have hL:=HL.out;obtain⟨old,hold⟩:∃old,wr.cell? ⟨g,k*2,none⟩=some old:=by
    rw[hown.cellAt _ (by omega)];exact⟨_,xDb (by rw[hown.1];omega)⟩
   obtain⟨old2,hold2⟩:∃old,wr.cell? ⟨g,k*2+1,none⟩=some old:=by
    rw[hown.cellAt _ (by omega)];exact⟨_,xDb (by rw[hown.1];omega)⟩
   have hfz:=hown.frozenAt (k*2);have hfz2:=hown.frozenAt (k*2+1);have R1:=zak hown (k*2) (.int .i64 (k0+(k*2:Nat))) (zbk k0 cs (k*2) (by omega));have R2:=zak R1.1 (k*2+1) (.int .i64 (k0+(k*2+1:Nat))) (zbk k0 cs (k*2+1) (by omega));have e1:k0+((k*2:Nat):Int)=k0+(k:Int)*2:=(by omega);have e2:k0+((k*2+1:Nat):Int)=k0+(k:Int)*2+1:=(by omega);rw[e1] at R1 R2;rw[e2] at R2;have HR1:=xH1 R1.2;have HR2:=xH1 R2;clear R1 R2 hown hL e1 e2;go_wp2
   go_roundw
   case rel=>exact⟨k+1,by omega,by go_num,by go_num,(by have:=HR2.out.1;rwa [show k*2+1+1=(k+1)*2 from by omega] at this),za5 hgr (za5 HR1.out HR2.out.2)⟩
   case measure=>simp[intOf];omega
  ·have hkn:k=n:=(by omega);subst hkn;go_wp2;go_ret;exact⟨rfl,by rw[List.drop_of_length_le (by have:=HL.out;omega)] at hown;simpa using hown,hgr⟩
theorem zf9 (a:Option Addr) (c n m:Nat) (k0:Int) (w:World) (hm:m=n*2) (hn:n<=1099511627776) (hk0:0<=k0) (hk1:k0<=2199023255552)
  (h1:Rd w a (ints (seq k0 m))):
  Calls Tryz.prog 130 #[.slice a n c,.int .i64 k0] w λe w'=>e= .returned (.int .i64 (k0+m))/\w'=w:=by
 subst hm;go_enter Tryz.func130,Tryz.ntmps130;go_wp2
 go_loop [1,5] (λq i=>∃k:Nat,k<=n/\i= .int .i64 k/\q= .int .i64 (k0+(k*2:Nat))) (λ_ i=>n-(intOf i).toNat)
 case atStart=>exact⟨0,by omega,rfl,by simp⟩
 case round=>
  obtain⟨k,hk,rfl,rfl⟩:=hrel;by_cases hlt:k<n
  ·obtain⟨b1,o1,rfl,g1'⟩:=h1.int (by rw[zb9];omega);have g1:=g1' (k*2) (by rw[zb9];omega);have g2:=g1' (k*2+1) (by rw[zb9];omega);rw[zeO k0 (n*2) (k*2) (by omega),show k0+((k*2:Nat):Int)=k0+(k:Int)*2 from by omega] at g1;rw[zeO k0 (n*2) (k*2+1) (by omega),show k0+((k*2+1:Nat):Int)=k0+(k:Int)*2+1 from by omega,<-Nat.add_assoc] at g2;clear g1';go_wp2
   go_round
   case rel=>exact⟨k+1,by omega,by go_num,by go_num⟩
   case measure=>simp[intOf];omega
  ·have hkn:k=n:=(by omega);subst hkn;go_wp2;go_ret;exact⟨rfl,rfl⟩
def szSe (z:SemD×SlV):Nat:=2+z.2.n*2
def mcSe (k:Int) (z:SemD×SlV):List Value:=[.int .i64 (k),.int .i64 (k+1),z.2.val]
def rwSe (z:SemD×SlV):List It:=[rwW z.2 z.1.queue]
def mrSe (k:Int) (z:SemD×SlV):List It:=[.row z.2.a z.2.n z.2.c 167 2 (ints (seq (k+1+1) (z.2.n*2)))]
def szOn (z:zaj×SlV):Nat:=3+z.2.n
def mcOn (k:Int) (z:zaj×SlV):List Value:=[.int .i64 (k),.int .i64 (k+1),.int .i64 (k+1+1),z.2.val]
def rwOn (z:zaj×SlV):List It:=[rwI z.2 z.1.waits]
def mrOn (k:Int) (z:zaj×SlV):List It:=[.row z.2.a z.2.n z.2.c 3 1 (ints (seq (k+1+1+1) (z.2.n)))]
def szGr (z:GrpD×SlV):Nat:=1+z.2.n
def mcGr (k:Int) (z:GrpD×SlV):List Value:=[.int .i64 (k),z.2.val]
def rwGr (z:GrpD×SlV):List It:=[rwI z.2 z.1.waits]
def mrGr (k:Int) (z:GrpD×SlV):List It:=[.row z.2.a z.2.n z.2.c 3 1 (ints (seq (k+1) (z.2.n)))]
def szBa (z:BarD×SlV):Nat:=2+z.2.n
def mcBa (k:Int) (z:BarD×SlV):List Value:=[.int .i64 (k),.int .i64 (k+1),z.2.val]
def rwBa (z:BarD×SlV):List It:=[rwI z.2 z.1.waits]
def mrBa (k:Int) (z:BarD×SlV):List It:=[.row z.2.a z.2.n z.2.c 3 1 (ints (seq (k+1+1) (z.2.n)))]
theorem zih (a:Option Addr) (n c:Nat) (Ls:List (SemD×SlV)) (k0:Int) (rest:List It) (w W:World) (F:Fr w W (.row a n c 74 3 (Ls.flatMap semC)::(Ls.flatMap rwSe++rest))) (hl:Ls.length=n) (hn:n<=1048576) (hq:∀z∈Ls,z.2.n=z.1.queue.length/\z.2.n<=1048576) (hk0:0<=k0) (hk1:k0+tot szSe Ls<=1099500000000):
  Calls Tryz.prog 71 #[.slice a n c,.int .i64 k0] W λe w'=>e= .returned (.int .i64 (k0+(tot szSe Ls:Nat)))/\Fr w w' (.row a n c 74 3 (mkL mcSe szSe k0 Ls)::(mkL mrSe szSe k0 Ls++rest)):=by
 have HL:=xH1 hl;have HQ:=xH1 hq;have HK1:=xH1 hk1;clear hl hq hk1;go_enter Tryz.func71,Tryz.ntmps71;go_wp2
 go_loopw [1,5] (λq i wr=>∃k:Nat,k<=n/\i= .int .i64 k/\q= .int .i64 (k0+(tot szSe (Ls.take k):Nat))/\Fr w wr (.row a n c 74 3 (mkL mcSe szSe k0 (Ls.take k)++(Ls.drop k).flatMap semC)::(mkL mrSe szSe k0 (Ls.take k)++((Ls.drop k).flatMap rwSe++rest)))) (λ_ i _=>n-(intOf i).toNat)
 case atStart=>exact⟨0,by omega,rfl,by simp[tot],by simpa[mkL] using F⟩
 case round=>
  clear F;obtain⟨k,hk,rfl,rfl,F⟩:=hrel;by_cases hlt:k<n
  ·have hks:k<Ls.length:=by rw[HL.out];exact hlt
   rw[zb1 Ls zcQ hks] at F;have ez:=zb0 Ls zcQ hks;have hz:=HQ.out (Ls.getD k zcQ) (by simp[List.getD,hks]);obtain⟨z,ezz⟩:∃z,z=Ls.getD k zcQ:=⟨_,rfl⟩
   rw[<-ezz] at F ez hz;clear ezz;obtain⟨x,q⟩:=z;have hA:=zb6 mcSe szSe 3 (λ_ _=>rfl) k0 (Ls.take k);rw[xDp,Nat.min_eq_left (by omega)] at hA;have HT:Hid (tot szSe (Ls.take (k+1))=tot szSe (Ls.take k)+szSe (x,q)):=xH1 (by rw[ez,zbQ]);have HTK:=xH1 (zbh szSe Ls (k+1));have HC:=xH1 (zbP mcSe szSe (x,q) k0 (Ls.take k));have HR:=xH1 (zbP mrSe szSe (x,q) k0 (Ls.take k));rw[<-ez] at HC HR;clear ez hks;obtain⟨Q,eQ⟩:∃Q:Int,Q=k0+(tot szSe (Ls.take k):Nat):=⟨_,rfl⟩
   have q0:0<=Q:=(by omega);have q1:Q<=1099500000000:=by have:=HK1.out;have:=zbh szSe Ls k;omega
   have HEQ:=xH1 eQ;obtain⟨A,eA⟩:∃A,A=mkL mcSe szSe k0 (Ls.take k):=⟨_,rfl⟩
   obtain⟨AR,eAR⟩:∃A,A=mkL mrSe szSe k0 (Ls.take k):=⟨_,rfl⟩
   obtain⟨D,eD⟩:∃D,D=(Ls.drop (k+1)).flatMap semC:=⟨_,rfl⟩
   obtain⟨DR,eDR⟩:∃D,D=(Ls.drop (k+1)).flatMap rwSe:=⟨_,rfl⟩
   simp only[List.flatMap_cons,xDg] at F;rw[<-eA] at hA;rw[<-eA,<-eQ] at HC;rw[<-eAR,<-eQ] at HR;rw[<-eA,<-eAR,<-eD,<-eDR] at F;rw[<-eQ];have HD:=xH1 (And.intro eD eDR);clear eQ eA eAR eD eDR;have ho:wr.ownsRow w.heap.size 74 3 (.slice a n c) n (A++(semC (x,q)++D)):=F.own 0 rfl;obtain⟨g,rfl,-,-⟩:=zaf ho (by omega);clear ho;have c0:=F.atA hA 0 rfl;have c1:=F.atA hA 1 rfl;have c2:=F.atA hA 2 rfl;have F10:=F.putA hA 0 (.int .i64 (Q));have F11:=F10.putA hA 1 (.int .i64 (Q+1));have HA:=xH1 hA;clear hA;simp only[Nat.add_zero] at c0 F11;go_wp2_with fail;obtain⟨W2,hw,F3⟩:=F11.named;rw[<-hw];clear hw F11 F F10 c0 c1 c2;have F4:Fr w W2 (rwW q x.queue:: .row (some ⟨g,0,none⟩) n c 74 3 (A++(.int .i64 (Q):: .int .i64 (Q+1)::q.val::D))::(AR++(DR++rest))):=F3.perm (zcw _ _ AR (DR++rest));clear F3;refine(zgD _ q.n q.c q.a (zt x.queue) (Q+1+1) W2 (by omega) (by omega) (by omega) (F4.own 0 rfl)).mono ?_;rintro e w9 ⟨rfl,ho,hg⟩;have F5:=xH1 ((F4.headI ho hg).perm (zcw _ _ AR (DR++rest)).symm);clear F4 ho hg;go_wp2
   go_roundw
   case rel=>exact⟨k+1,by omega,by go_num,by rw[HT.out];have:=HEQ.out;rw[show szSe (x,q)=2+q.n*2 from rfl];congr 1;omega,by rw[HC.out,HR.out,<-HD.out.1,<-HD.out.2,xDg,xDg];exact F5.out⟩
   case measure=>simp[intOf];omega
  ·have hkn:k=n:=(by omega);subst hkn;go_wp2;have e:Ls.take k=Ls:=xDt (by rw[HL.out];omega);rw[e,List.drop_of_length_le (by rw[HL.out];omega)] at F;rw[e];go_ret;exact⟨rfl,by simpa using F⟩
theorem zii (a:Option Addr) (n c:Nat) (Ls:List (SemD×SlV)) (k0:Int) (rest:List It) (w W:World) (F:Fr w W (.row a n c 74 3 (mkL mcSe szSe k0 Ls)::(mkL mrSe szSe k0 Ls++rest))) (hl:Ls.length=n) (hn:n<=1048576) (hq:∀z∈Ls,z.2.n<=1048576) (hk0:0<=k0) (hk1:k0+tot szSe Ls<=1099500000000):
  Calls Tryz.prog 76 #[.slice a n c,.int .i64 k0] W λe w'=>e= .returned (.int .i64 (k0+(tot szSe Ls:Nat)))/\w'=W:=by
 have HL:=xH1 hl;have HQ:=xH1 hq;have HK1:=xH1 hk1;have HF:=xH1 F;clear hl hq hk1 F;go_enter Tryz.func76,Tryz.ntmps76;go_wp2
 go_loopw [1,5] (λq i wr=>∃k:Nat,k<=n/\i= .int .i64 k/\q= .int .i64 (k0+(tot szSe (Ls.take k):Nat))/\wr=W) (λ_ i _=>n-(intOf i).toNat)
 case atStart=>exact⟨0,by omega,rfl,by simp[tot],rfl⟩
 case round=>
  obtain⟨k,hk,rfl,rfl,rfl⟩:=hrel;by_cases hlt:k<n
  ·have hks:k<Ls.length:=by rw[HL.out];exact hlt
   have F:=HF.out;rw[zbx mcSe szSe k0 Ls k,zbx mrSe szSe k0 Ls k,zb1 Ls zcQ hks] at F;have ez:=zb0 Ls zcQ hks;have hz:=HQ.out (Ls.getD k zcQ) (by simp[List.getD,hks]);obtain⟨z,ezz⟩:∃z,z=Ls.getD k zcQ:=⟨_,rfl⟩
   rw[<-ezz] at F ez hz;clear ezz;obtain⟨x,q⟩:=z;have hA:=zb6 mcSe szSe 3 (λ_ _=>rfl) k0 (Ls.take k);rw[xDp,Nat.min_eq_left (by omega)] at hA;have HT:Hid (tot szSe (Ls.take (k+1))=tot szSe (Ls.take k)+szSe (x,q)):=xH1 (by rw[ez,zbQ]);obtain⟨Q,eQ⟩:∃Q:Int,Q=k0+(tot szSe (Ls.take k):Nat):=⟨_,rfl⟩
   have q0:0<=Q:=(by omega);have q1:Q<=1099500000000:=by have:=HK1.out;have:=zbh szSe Ls k;omega
   have HEQ:=xH1 eQ;rw[<-eQ] at F⊢;clear eQ ez hks;simp only[mkL] at F;have ho:wr.ownsRow w.heap.size 74 3 (.slice a n c) n _:=F.own 0 rfl;obtain⟨g,rfl,-,-⟩:=zaf ho (by omega);clear ho;have c0:=F.atA hA 0 rfl;have c1:=F.atA hA 1 rfl;have c2:=F.atA hA 2 rfl;have hrow:wr.ownsRow w.heap.size 167 2 (.slice q.a q.n q.c) q.n (ints (seq (Q+1+1) (q.n*2))):=F.has (.row q.a q.n q.c 167 2 (ints (seq (Q+1+1) (q.n*2)))) (by simp[mrSe]);clear F hA;simp only[Nat.add_zero] at c0;have s0:0<=Q+1+1+((q.n*2:Nat):Int):=(by omega);go_wp2_with fail;refine(zgt q.a q.c q.n (q.n*2) (Q+1+1) _ rfl (by omega) (by omega) (by omega) (Rd.of_owns hrow)).mono ?_;rintro e w9 ⟨rfl,hw⟩;obtain rfl:=hw;have t9:¬(Q+1+1+((q.n*2:Nat):Int)<0):=(by omega);clear hrow;go_wp2
   go_roundw
   case rel=>exact⟨k+1,by omega,by go_num,by rw[HT.out];have:=HEQ.out;rw[show szSe (x,q)=2+q.n*2 from rfl];congr 1;omega,trivial⟩
   case measure=>simp[intOf];omega
  ·have hkn:k=n:=(by omega);subst hkn;go_wp2;have e:Ls.take k=Ls:=xDt (by rw[HL.out];omega);rw[e];go_ret;exact⟨rfl,rfl⟩
theorem zhC (a:Option Addr) (n c:Nat) (Ls:List (zaj×SlV)) (k0:Int) (rest:List It) (w W:World) (F:Fr w W (.row a n c 78 4 (Ls.flatMap zbo)::(Ls.flatMap rwOn++rest))) (hl:Ls.length=n) (hn:n<=1048576) (hq:∀z∈Ls,z.2.n=z.1.waits.length/\z.2.n<=1048576) (hk0:0<=k0) (hk1:k0+tot szOn Ls<=1099500000000):
  Calls Tryz.prog 72 #[.slice a n c,.int .i64 k0] W λe w'=>e= .returned (.int .i64 (k0+(tot szOn Ls:Nat)))/\Fr w w' (.row a n c 78 4 (mkL mcOn szOn k0 Ls)::(mkL mrOn szOn k0 Ls++rest)):=by
 have HL:=xH1 hl;have HQ:=xH1 hq;have HK1:=xH1 hk1;clear hl hq hk1;go_enter Tryz.func72,Tryz.ntmps72;go_wp2
 go_loopw [1,5] (λq i wr=>∃k:Nat,k<=n/\i= .int .i64 k/\q= .int .i64 (k0+(tot szOn (Ls.take k):Nat))/\Fr w wr (.row a n c 78 4 (mkL mcOn szOn k0 (Ls.take k)++(Ls.drop k).flatMap zbo)::(mkL mrOn szOn k0 (Ls.take k)++((Ls.drop k).flatMap rwOn++rest)))) (λ_ i _=>n-(intOf i).toNat)
 case atStart=>exact⟨0,by omega,rfl,by simp[tot],by simpa[mkL] using F⟩
 case round=>
  clear F;obtain⟨k,hk,rfl,rfl,F⟩:=hrel;by_cases hlt:k<n
  ·have hks:k<Ls.length:=by rw[HL.out];exact hlt
   rw[zb1 Ls zcp hks] at F;have ez:=zb0 Ls zcp hks;have hz:=HQ.out (Ls.getD k zcp) (by simp[List.getD,hks]);obtain⟨z,ezz⟩:∃z,z=Ls.getD k zcp:=⟨_,rfl⟩
   rw[<-ezz] at F ez hz;clear ezz;obtain⟨x,q⟩:=z;have hA:=zb6 mcOn szOn 4 (λ_ _=>rfl) k0 (Ls.take k);rw[xDp,Nat.min_eq_left (by omega)] at hA;have HT:Hid (tot szOn (Ls.take (k+1))=tot szOn (Ls.take k)+szOn (x,q)):=xH1 (by rw[ez,zbQ]);have HTK:=xH1 (zbh szOn Ls (k+1));have HC:=xH1 (zbP mcOn szOn (x,q) k0 (Ls.take k));have HR:=xH1 (zbP mrOn szOn (x,q) k0 (Ls.take k));rw[<-ez] at HC HR;clear ez hks;obtain⟨Q,eQ⟩:∃Q:Int,Q=k0+(tot szOn (Ls.take k):Nat):=⟨_,rfl⟩
   have q0:0<=Q:=(by omega);have q1:Q<=1099500000000:=by have:=HK1.out;have:=zbh szOn Ls k;omega
   have HEQ:=xH1 eQ;obtain⟨A,eA⟩:∃A,A=mkL mcOn szOn k0 (Ls.take k):=⟨_,rfl⟩
   obtain⟨AR,eAR⟩:∃A,A=mkL mrOn szOn k0 (Ls.take k):=⟨_,rfl⟩
   obtain⟨D,eD⟩:∃D,D=(Ls.drop (k+1)).flatMap zbo:=⟨_,rfl⟩
   obtain⟨DR,eDR⟩:∃D,D=(Ls.drop (k+1)).flatMap rwOn:=⟨_,rfl⟩
   simp only[List.flatMap_cons,xDg] at F;rw[<-eA] at hA;rw[<-eA,<-eQ] at HC;rw[<-eAR,<-eQ] at HR;rw[<-eA,<-eAR,<-eD,<-eDR] at F;rw[<-eQ];have HD:=xH1 (And.intro eD eDR);clear eQ eA eAR eD eDR;have ho:wr.ownsRow w.heap.size 78 4 (.slice a n c) n (A++(zbo (x,q)++D)):=F.own 0 rfl;obtain⟨g,rfl,-,-⟩:=zaf ho (by omega);clear ho;have c0:=F.atA hA 0 rfl;have c1:=F.atA hA 1 rfl;have c2:=F.atA hA 2 rfl;have c3:=F.atA hA 3 rfl;have F10:=F.putA hA 0 (.int .i64 (Q));have F11:=F10.putA hA 1 (.int .i64 (Q+1));have F12:=F11.putA hA 2 (.int .i64 (Q+1+1));have HA:=xH1 hA;clear hA;simp only[Nat.add_zero] at c0 F12;go_wp2_with fail;obtain⟨W2,hw,F3⟩:=F12.named;rw[<-hw];clear hw F12 F F10 F11 c0 c1 c2 c3;have F4:Fr w W2 (rwI q x.waits:: .row (some ⟨g,0,none⟩) n c 78 4 (A++(.int .i64 (Q):: .int .i64 (Q+1):: .int .i64 (Q+1+1)::q.val::D))::(AR++(DR++rest))):=F3.perm (zcw _ _ AR (DR++rest));clear F3;refine(zat _ q.n q.c q.a (ints x.waits) (Q+1+1+1) W2 (by omega) (by omega) (by omega) (F4.own 0 rfl)).mono ?_;rintro e w9 ⟨rfl,ho,hg⟩;have F5:=xH1 ((F4.headI ho hg).perm (zcw _ _ AR (DR++rest)).symm);clear F4 ho hg;go_wp2
   go_roundw
   case rel=>exact⟨k+1,by omega,by go_num,by rw[HT.out];have:=HEQ.out;rw[show szOn (x,q)=3+q.n from rfl];congr 1;omega,by rw[HC.out,HR.out,<-HD.out.1,<-HD.out.2,xDg,xDg];exact F5.out⟩
   case measure=>simp[intOf];omega
  ·have hkn:k=n:=(by omega);subst hkn;go_wp2;have e:Ls.take k=Ls:=xDt (by rw[HL.out];omega);rw[e,List.drop_of_length_le (by rw[HL.out];omega)] at F;rw[e];go_ret;exact⟨rfl,by simpa using F⟩
theorem zhL (a:Option Addr) (n c:Nat) (Ls:List (zaj×SlV)) (k0:Int) (rest:List It) (w W:World) (F:Fr w W (.row a n c 78 4 (mkL mcOn szOn k0 Ls)::(mkL mrOn szOn k0 Ls++rest))) (hl:Ls.length=n) (hn:n<=1048576) (hq:∀z∈Ls,z.2.n<=1048576) (hk0:0<=k0) (hk1:k0+tot szOn Ls<=1099500000000):
  Calls Tryz.prog 77 #[.slice a n c,.int .i64 k0] W λe w'=>e= .returned (.int .i64 (k0+(tot szOn Ls:Nat)))/\w'=W:=by
 have HL:=xH1 hl;have HQ:=xH1 hq;have HK1:=xH1 hk1;have HF:=xH1 F;clear hl hq hk1 F;go_enter Tryz.func77,Tryz.ntmps77;go_wp2
 go_loopw [1,5] (λq i wr=>∃k:Nat,k<=n/\i= .int .i64 k/\q= .int .i64 (k0+(tot szOn (Ls.take k):Nat))/\wr=W) (λ_ i _=>n-(intOf i).toNat)
 case atStart=>exact⟨0,by omega,rfl,by simp[tot],rfl⟩
 case round=>
  obtain⟨k,hk,rfl,rfl,rfl⟩:=hrel;by_cases hlt:k<n
  ·have hks:k<Ls.length:=by rw[HL.out];exact hlt
   have F:=HF.out;rw[zbx mcOn szOn k0 Ls k,zbx mrOn szOn k0 Ls k,zb1 Ls zcp hks] at F;have ez:=zb0 Ls zcp hks;have hz:=HQ.out (Ls.getD k zcp) (by simp[List.getD,hks]);obtain⟨z,ezz⟩:∃z,z=Ls.getD k zcp:=⟨_,rfl⟩
   rw[<-ezz] at F ez hz;clear ezz;obtain⟨x,q⟩:=z;have hA:=zb6 mcOn szOn 4 (λ_ _=>rfl) k0 (Ls.take k);rw[xDp,Nat.min_eq_left (by omega)] at hA;have HT:Hid (tot szOn (Ls.take (k+1))=tot szOn (Ls.take k)+szOn (x,q)):=xH1 (by rw[ez,zbQ]);obtain⟨Q,eQ⟩:∃Q:Int,Q=k0+(tot szOn (Ls.take k):Nat):=⟨_,rfl⟩
   have q0:0<=Q:=(by omega);have q1:Q<=1099500000000:=by have:=HK1.out;have:=zbh szOn Ls k;omega
   have HEQ:=xH1 eQ;rw[<-eQ] at F⊢;clear eQ ez hks;simp only[mkL] at F;have ho:wr.ownsRow w.heap.size 78 4 (.slice a n c) n _:=F.own 0 rfl;obtain⟨g,rfl,-,-⟩:=zaf ho (by omega);clear ho;have c0:=F.atA hA 0 rfl;have c1:=F.atA hA 1 rfl;have c2:=F.atA hA 2 rfl;have c3:=F.atA hA 3 rfl;have hrow:wr.ownsRow w.heap.size 3 1 (.slice q.a q.n q.c) q.n (ints (seq (Q+1+1+1) (q.n))):=F.has (.row q.a q.n q.c 3 1 (ints (seq (Q+1+1+1) (q.n)))) (by simp[mrOn]);clear F hA;simp only[Nat.add_zero] at c0;have s0:0<=Q+1+1+1+((q.n:Nat):Int):=(by omega);go_wp2_with fail;refine(zbf q.a q.c q.n (Q+1+1+1) _ (by omega) (by omega) (by omega) (Rd.of_owns hrow)).mono ?_;rintro e w9 ⟨rfl,hw⟩;obtain rfl:=hw;have t9:¬(Q+1+1+1+((q.n:Nat):Int)<0):=(by omega);clear hrow;go_wp2
   go_roundw
   case rel=>exact⟨k+1,by omega,by go_num,by rw[HT.out];have:=HEQ.out;rw[show szOn (x,q)=3+q.n from rfl];congr 1;omega,trivial⟩
   case measure=>simp[intOf];omega
  ·have hkn:k=n:=(by omega);subst hkn;go_wp2;have e:Ls.take k=Ls:=xDt (by rw[HL.out];omega);rw[e];go_ret;exact⟨rfl,rfl⟩
theorem zgM (a:Option Addr) (n c:Nat) (Ls:List (GrpD×SlV)) (k0:Int) (rest:List It) (w W:World) (F:Fr w W (.row a n c 80 2 (Ls.flatMap grpC)::(Ls.flatMap rwGr++rest))) (hl:Ls.length=n) (hn:n<=1048576) (hq:∀z∈Ls,z.2.n=z.1.waits.length/\z.2.n<=1048576) (hk0:0<=k0) (hk1:k0+tot szGr Ls<=1099500000000):
  Calls Tryz.prog 73 #[.slice a n c,.int .i64 k0] W λe w'=>e= .returned (.int .i64 (k0+(tot szGr Ls:Nat)))/\Fr w w' (.row a n c 80 2 (mkL mcGr szGr k0 Ls)::(mkL mrGr szGr k0 Ls++rest)):=by
 have HL:=xH1 hl;have HQ:=xH1 hq;have HK1:=xH1 hk1;clear hl hq hk1;go_enter Tryz.func73,Tryz.ntmps73;go_wp2
 go_loopw [1,5] (λq i wr=>∃k:Nat,k<=n/\i= .int .i64 k/\q= .int .i64 (k0+(tot szGr (Ls.take k):Nat))/\Fr w wr (.row a n c 80 2 (mkL mcGr szGr k0 (Ls.take k)++(Ls.drop k).flatMap grpC)::(mkL mrGr szGr k0 (Ls.take k)++((Ls.drop k).flatMap rwGr++rest)))) (λ_ i _=>n-(intOf i).toNat)
 case atStart=>exact⟨0,by omega,rfl,by simp[tot],by simpa[mkL] using F⟩
 case round=>
  clear F;obtain⟨k,hk,rfl,rfl,F⟩:=hrel;by_cases hlt:k<n
  ·have hks:k<Ls.length:=by rw[HL.out];exact hlt
   rw[zb1 Ls zcV hks] at F;have ez:=zb0 Ls zcV hks;have hz:=HQ.out (Ls.getD k zcV) (by simp[List.getD,hks]);obtain⟨z,ezz⟩:∃z,z=Ls.getD k zcV:=⟨_,rfl⟩
   rw[<-ezz] at F ez hz;clear ezz;obtain⟨x,q⟩:=z;have hA:=zb6 mcGr szGr 2 (λ_ _=>rfl) k0 (Ls.take k);rw[xDp,Nat.min_eq_left (by omega)] at hA;have HT:Hid (tot szGr (Ls.take (k+1))=tot szGr (Ls.take k)+szGr (x,q)):=xH1 (by rw[ez,zbQ]);have HTK:=xH1 (zbh szGr Ls (k+1));have HC:=xH1 (zbP mcGr szGr (x,q) k0 (Ls.take k));have HR:=xH1 (zbP mrGr szGr (x,q) k0 (Ls.take k));rw[<-ez] at HC HR;clear ez hks;obtain⟨Q,eQ⟩:∃Q:Int,Q=k0+(tot szGr (Ls.take k):Nat):=⟨_,rfl⟩
   have q0:0<=Q:=(by omega);have q1:Q<=1099500000000:=by have:=HK1.out;have:=zbh szGr Ls k;omega
   have HEQ:=xH1 eQ;obtain⟨A,eA⟩:∃A,A=mkL mcGr szGr k0 (Ls.take k):=⟨_,rfl⟩
   obtain⟨AR,eAR⟩:∃A,A=mkL mrGr szGr k0 (Ls.take k):=⟨_,rfl⟩
   obtain⟨D,eD⟩:∃D,D=(Ls.drop (k+1)).flatMap grpC:=⟨_,rfl⟩
   obtain⟨DR,eDR⟩:∃D,D=(Ls.drop (k+1)).flatMap rwGr:=⟨_,rfl⟩
   simp only[List.flatMap_cons,xDg] at F;rw[<-eA] at hA;rw[<-eA,<-eQ] at HC;rw[<-eAR,<-eQ] at HR;rw[<-eA,<-eAR,<-eD,<-eDR] at F;rw[<-eQ];have HD:=xH1 (And.intro eD eDR);clear eQ eA eAR eD eDR;have ho:wr.ownsRow w.heap.size 80 2 (.slice a n c) n (A++(grpC (x,q)++D)):=F.own 0 rfl;obtain⟨g,rfl,-,-⟩:=zaf ho (by omega);clear ho;have c0:=F.atA hA 0 rfl;have c1:=F.atA hA 1 rfl;have F10:=F.putA hA 0 (.int .i64 (Q));have HA:=xH1 hA;clear hA;simp only[Nat.add_zero] at c0 F10;go_wp2_with fail;obtain⟨W2,hw,F3⟩:=F10.named;rw[<-hw];clear hw F10 F c0 c1;have F4:Fr w W2 (rwI q x.waits:: .row (some ⟨g,0,none⟩) n c 80 2 (A++(.int .i64 (Q)::q.val::D))::(AR++(DR++rest))):=F3.perm (zcw _ _ AR (DR++rest));clear F3;refine(zat _ q.n q.c q.a (ints x.waits) (Q+1) W2 (by omega) (by omega) (by omega) (F4.own 0 rfl)).mono ?_;rintro e w9 ⟨rfl,ho,hg⟩;have F5:=xH1 ((F4.headI ho hg).perm (zcw _ _ AR (DR++rest)).symm);clear F4 ho hg;go_wp2
   go_roundw
   case rel=>exact⟨k+1,by omega,by go_num,by rw[HT.out];have:=HEQ.out;rw[show szGr (x,q)=1+q.n from rfl];congr 1;omega,by rw[HC.out,HR.out,<-HD.out.1,<-HD.out.2,xDg,xDg];exact F5.out⟩
   case measure=>simp[intOf];omega
  ·have hkn:k=n:=(by omega);subst hkn;go_wp2;have e:Ls.take k=Ls:=xDt (by rw[HL.out];omega);rw[e,List.drop_of_length_le (by rw[HL.out];omega)] at F;rw[e];go_ret;exact⟨rfl,by simpa using F⟩
theorem zgY (a:Option Addr) (n c:Nat) (Ls:List (GrpD×SlV)) (k0:Int) (rest:List It) (w W:World) (F:Fr w W (.row a n c 80 2 (mkL mcGr szGr k0 Ls)::(mkL mrGr szGr k0 Ls++rest))) (hl:Ls.length=n) (hn:n<=1048576) (hq:∀z∈Ls,z.2.n<=1048576) (hk0:0<=k0) (hk1:k0+tot szGr Ls<=1099500000000):
  Calls Tryz.prog 78 #[.slice a n c,.int .i64 k0] W λe w'=>e= .returned (.int .i64 (k0+(tot szGr Ls:Nat)))/\w'=W:=by
 have HL:=xH1 hl;have HQ:=xH1 hq;have HK1:=xH1 hk1;have HF:=xH1 F;clear hl hq hk1 F;go_enter Tryz.func78,Tryz.ntmps78;go_wp2
 go_loopw [1,5] (λq i wr=>∃k:Nat,k<=n/\i= .int .i64 k/\q= .int .i64 (k0+(tot szGr (Ls.take k):Nat))/\wr=W) (λ_ i _=>n-(intOf i).toNat)
 case atStart=>exact⟨0,by omega,rfl,by simp[tot],rfl⟩
 case round=>
  obtain⟨k,hk,rfl,rfl,rfl⟩:=hrel;by_cases hlt:k<n
  ·have hks:k<Ls.length:=by rw[HL.out];exact hlt
   have F:=HF.out;rw[zbx mcGr szGr k0 Ls k,zbx mrGr szGr k0 Ls k,zb1 Ls zcV hks] at F;have ez:=zb0 Ls zcV hks;have hz:=HQ.out (Ls.getD k zcV) (by simp[List.getD,hks]);obtain⟨z,ezz⟩:∃z,z=Ls.getD k zcV:=⟨_,rfl⟩
   rw[<-ezz] at F ez hz;clear ezz;obtain⟨x,q⟩:=z;have hA:=zb6 mcGr szGr 2 (λ_ _=>rfl) k0 (Ls.take k);rw[xDp,Nat.min_eq_left (by omega)] at hA;have HT:Hid (tot szGr (Ls.take (k+1))=tot szGr (Ls.take k)+szGr (x,q)):=xH1 (by rw[ez,zbQ]);obtain⟨Q,eQ⟩:∃Q:Int,Q=k0+(tot szGr (Ls.take k):Nat):=⟨_,rfl⟩
   have q0:0<=Q:=(by omega);have q1:Q<=1099500000000:=by have:=HK1.out;have:=zbh szGr Ls k;omega
   have HEQ:=xH1 eQ;rw[<-eQ] at F⊢;clear eQ ez hks;simp only[mkL] at F;have ho:wr.ownsRow w.heap.size 80 2 (.slice a n c) n _:=F.own 0 rfl;obtain⟨g,rfl,-,-⟩:=zaf ho (by omega);clear ho;have c0:=F.atA hA 0 rfl;have c1:=F.atA hA 1 rfl;have hrow:wr.ownsRow w.heap.size 3 1 (.slice q.a q.n q.c) q.n (ints (seq (Q+1) (q.n))):=F.has (.row q.a q.n q.c 3 1 (ints (seq (Q+1) (q.n)))) (by simp[mrGr]);clear F hA;simp only[Nat.add_zero] at c0;have s0:0<=Q+1+((q.n:Nat):Int):=(by omega);go_wp2_with fail;refine(zbf q.a q.c q.n (Q+1) _ (by omega) (by omega) (by omega) (Rd.of_owns hrow)).mono ?_;rintro e w9 ⟨rfl,hw⟩;obtain rfl:=hw;have t9:¬(Q+1+((q.n:Nat):Int)<0):=(by omega);clear hrow;go_wp2
   go_roundw
   case rel=>exact⟨k+1,by omega,by go_num,by rw[HT.out];have:=HEQ.out;rw[show szGr (x,q)=1+q.n from rfl];congr 1;omega,trivial⟩
   case measure=>simp[intOf];omega
  ·have hkn:k=n:=(by omega);subst hkn;go_wp2;have e:Ls.take k=Ls:=xDt (by rw[HL.out];omega);rw[e];go_ret;exact⟨rfl,rfl⟩
theorem zfQ (a:Option Addr) (n c:Nat) (Ls:List (BarD×SlV)) (k0:Int) (rest:List It) (w W:World) (F:Fr w W (.row a n c 82 3 (Ls.flatMap barC)::(Ls.flatMap rwBa++rest))) (hl:Ls.length=n) (hn:n<=1048576) (hq:∀z∈Ls,z.2.n=z.1.waits.length/\z.2.n<=1048576) (hk0:0<=k0) (hk1:k0+tot szBa Ls<=1099500000000):
  Calls Tryz.prog 74 #[.slice a n c,.int .i64 k0] W λe w'=>e= .returned (.int .i64 (k0+(tot szBa Ls:Nat)))/\Fr w w' (.row a n c 82 3 (mkL mcBa szBa k0 Ls)::(mkL mrBa szBa k0 Ls++rest)):=by
 have HL:=xH1 hl;have HQ:=xH1 hq;have HK1:=xH1 hk1;clear hl hq hk1;go_enter Tryz.func74,Tryz.ntmps74;go_wp2
 go_loopw [1,5] (λq i wr=>∃k:Nat,k<=n/\i= .int .i64 k/\q= .int .i64 (k0+(tot szBa (Ls.take k):Nat))/\Fr w wr (.row a n c 82 3 (mkL mcBa szBa k0 (Ls.take k)++(Ls.drop k).flatMap barC)::(mkL mrBa szBa k0 (Ls.take k)++((Ls.drop k).flatMap rwBa++rest)))) (λ_ i _=>n-(intOf i).toNat)
 case atStart=>exact⟨0,by omega,rfl,by simp[tot],by simpa[mkL] using F⟩
 case round=>
  clear F;obtain⟨k,hk,rfl,rfl,F⟩:=hrel;by_cases hlt:k<n
  ·have hks:k<Ls.length:=by rw[HL.out];exact hlt
   rw[zb1 Ls zcU hks] at F;have ez:=zb0 Ls zcU hks;have hz:=HQ.out (Ls.getD k zcU) (by simp[List.getD,hks]);obtain⟨z,ezz⟩:∃z,z=Ls.getD k zcU:=⟨_,rfl⟩
   rw[<-ezz] at F ez hz;clear ezz;obtain⟨x,q⟩:=z;have hA:=zb6 mcBa szBa 3 (λ_ _=>rfl) k0 (Ls.take k);rw[xDp,Nat.min_eq_left (by omega)] at hA;have HT:Hid (tot szBa (Ls.take (k+1))=tot szBa (Ls.take k)+szBa (x,q)):=xH1 (by rw[ez,zbQ]);have HTK:=xH1 (zbh szBa Ls (k+1));have HC:=xH1 (zbP mcBa szBa (x,q) k0 (Ls.take k));have HR:=xH1 (zbP mrBa szBa (x,q) k0 (Ls.take k));rw[<-ez] at HC HR;clear ez hks;obtain⟨Q,eQ⟩:∃Q:Int,Q=k0+(tot szBa (Ls.take k):Nat):=⟨_,rfl⟩
   have q0:0<=Q:=(by omega);have q1:Q<=1099500000000:=by have:=HK1.out;have:=zbh szBa Ls k;omega
   have HEQ:=xH1 eQ;obtain⟨A,eA⟩:∃A,A=mkL mcBa szBa k0 (Ls.take k):=⟨_,rfl⟩
   obtain⟨AR,eAR⟩:∃A,A=mkL mrBa szBa k0 (Ls.take k):=⟨_,rfl⟩
   obtain⟨D,eD⟩:∃D,D=(Ls.drop (k+1)).flatMap barC:=⟨_,rfl⟩
   obtain⟨DR,eDR⟩:∃D,D=(Ls.drop (k+1)).flatMap rwBa:=⟨_,rfl⟩
   simp only[List.flatMap_cons,xDg] at F;rw[<-eA] at hA;rw[<-eA,<-eQ] at HC;rw[<-eAR,<-eQ] at HR;rw[<-eA,<-eAR,<-eD,<-eDR] at F;rw[<-eQ];have HD:=xH1 (And.intro eD eDR);clear eQ eA eAR eD eDR;have ho:wr.ownsRow w.heap.size 82 3 (.slice a n c) n (A++(barC (x,q)++D)):=F.own 0 rfl;obtain⟨g,rfl,-,-⟩:=zaf ho (by omega);clear ho;have c0:=F.atA hA 0 rfl;have c1:=F.atA hA 1 rfl;have c2:=F.atA hA 2 rfl;have F10:=F.putA hA 0 (.int .i64 (Q));have F11:=F10.putA hA 1 (.int .i64 (Q+1));have HA:=xH1 hA;clear hA;simp only[Nat.add_zero] at c0 F11;go_wp2_with fail;obtain⟨W2,hw,F3⟩:=F11.named;rw[<-hw];clear hw F11 F F10 c0 c1 c2;have F4:Fr w W2 (rwI q x.waits:: .row (some ⟨g,0,none⟩) n c 82 3 (A++(.int .i64 (Q):: .int .i64 (Q+1)::q.val::D))::(AR++(DR++rest))):=F3.perm (zcw _ _ AR (DR++rest));clear F3;refine(zat _ q.n q.c q.a (ints x.waits) (Q+1+1) W2 (by omega) (by omega) (by omega) (F4.own 0 rfl)).mono ?_;rintro e w9 ⟨rfl,ho,hg⟩;have F5:=xH1 ((F4.headI ho hg).perm (zcw _ _ AR (DR++rest)).symm);clear F4 ho hg;go_wp2
   go_roundw
   case rel=>exact⟨k+1,by omega,by go_num,by rw[HT.out];have:=HEQ.out;rw[show szBa (x,q)=2+q.n from rfl];congr 1;omega,by rw[HC.out,HR.out,<-HD.out.1,<-HD.out.2,xDg,xDg];exact F5.out⟩
   case measure=>simp[intOf];omega
  ·have hkn:k=n:=(by omega);subst hkn;go_wp2;have e:Ls.take k=Ls:=xDt (by rw[HL.out];omega);rw[e,List.drop_of_length_le (by rw[HL.out];omega)] at F;rw[e];go_ret;exact⟨rfl,by simpa using F⟩
theorem zf2 (a:Option Addr) (n c:Nat) (Ls:List (BarD×SlV)) (k0:Int) (rest:List It) (w W:World) (F:Fr w W (.row a n c 82 3 (mkL mcBa szBa k0 Ls)::(mkL mrBa szBa k0 Ls++rest))) (hl:Ls.length=n) (hn:n<=1048576) (hq:∀z∈Ls,z.2.n<=1048576) (hk0:0<=k0) (hk1:k0+tot szBa Ls<=1099500000000):
  Calls Tryz.prog 79 #[.slice a n c,.int .i64 k0] W λe w'=>e= .returned (.int .i64 (k0+(tot szBa Ls:Nat)))/\w'=W:=by
 have HL:=xH1 hl;have HQ:=xH1 hq;have HK1:=xH1 hk1;have HF:=xH1 F;clear hl hq hk1 F;go_enter Tryz.func79,Tryz.ntmps79;go_wp2
 go_loopw [1,5] (λq i wr=>∃k:Nat,k<=n/\i= .int .i64 k/\q= .int .i64 (k0+(tot szBa (Ls.take k):Nat))/\wr=W) (λ_ i _=>n-(intOf i).toNat)
 case atStart=>exact⟨0,by omega,rfl,by simp[tot],rfl⟩
 case round=>
  obtain⟨k,hk,rfl,rfl,rfl⟩:=hrel;by_cases hlt:k<n
  ·have hks:k<Ls.length:=by rw[HL.out];exact hlt
   have F:=HF.out;rw[zbx mcBa szBa k0 Ls k,zbx mrBa szBa k0 Ls k,zb1 Ls zcU hks] at F;have ez:=zb0 Ls zcU hks;have hz:=HQ.out (Ls.getD k zcU) (by simp[List.getD,hks]);obtain⟨z,ezz⟩:∃z,z=Ls.getD k zcU:=⟨_,rfl⟩
   rw[<-ezz] at F ez hz;clear ezz;obtain⟨x,q⟩:=z;have hA:=zb6 mcBa szBa 3 (λ_ _=>rfl) k0 (Ls.take k);rw[xDp,Nat.min_eq_left (by omega)] at hA;have HT:Hid (tot szBa (Ls.take (k+1))=tot szBa (Ls.take k)+szBa (x,q)):=xH1 (by rw[ez,zbQ]);obtain⟨Q,eQ⟩:∃Q:Int,Q=k0+(tot szBa (Ls.take k):Nat):=⟨_,rfl⟩
   have q0:0<=Q:=(by omega);have q1:Q<=1099500000000:=by have:=HK1.out;have:=zbh szBa Ls k;omega
   have HEQ:=xH1 eQ;rw[<-eQ] at F⊢;clear eQ ez hks;simp only[mkL] at F;have ho:wr.ownsRow w.heap.size 82 3 (.slice a n c) n _:=F.own 0 rfl;obtain⟨g,rfl,-,-⟩:=zaf ho (by omega);clear ho;have c0:=F.atA hA 0 rfl;have c1:=F.atA hA 1 rfl;have c2:=F.atA hA 2 rfl;have hrow:wr.ownsRow w.heap.size 3 1 (.slice q.a q.n q.c) q.n (ints (seq (Q+1+1) (q.n))):=F.has (.row q.a q.n q.c 3 1 (ints (seq (Q+1+1) (q.n)))) (by simp[mrBa]);clear F hA;simp only[Nat.add_zero] at c0;have s0:0<=Q+1+1+((q.n:Nat):Int):=(by omega);go_wp2_with fail;refine(zbf q.a q.c q.n (Q+1+1) _ (by omega) (by omega) (by omega) (Rd.of_owns hrow)).mono ?_;rintro e w9 ⟨rfl,hw⟩;obtain rfl:=hw;have t9:¬(Q+1+1+((q.n:Nat):Int)<0):=(by omega);clear hrow;go_wp2
   go_roundw
   case rel=>exact⟨k+1,by omega,by go_num,by rw[HT.out];have:=HEQ.out;rw[show szBa (x,q)=2+q.n from rfl];congr 1;omega,trivial⟩
   case measure=>simp[intOf];omega
  ·have hkn:k=n:=(by omega);subst hkn;go_wp2;have e:Ls.take k=Ls:=xDt (by rw[HL.out];omega);rw[e];go_ret;exact⟨rfl,rfl⟩
def szCh (z:ChnD×SlV×SlV×SlV):Nat:=1+z.2.1.n+z.2.2.1.n*2+z.2.2.2.n+1
def mcCh (k:Int) (z:ChnD×SlV×SlV×SlV):List Value:=[.int .i64 k,z.2.1.val,z.2.2.1.val,z.2.2.2.val,.bool ((k+1+(z.2.1.n:Int)+(z.2.2.1.n:Int)*2+(z.2.2.2.n:Int))% 3==0)]
def rwCh (z:ChnD×SlV×SlV×SlV):List It:=[rwI z.2.2.2 z.1.getters,rwL z.2.2.1 z.1.senders,rwI z.2.1 z.1.items]
def mrCh (k:Int) (z:ChnD×SlV×SlV×SlV):List It:=[.row z.2.2.2.a z.2.2.2.n z.2.2.2.c 3 1 (ints (seq (k+1+(z.2.1.n:Nat)+(z.2.2.1.n*2:Nat)) (z.2.2.2.n))),.row z.2.2.1.a z.2.2.1.n z.2.2.1.c 187 2 (ints (seq (k+1+(z.2.1.n:Nat)) (z.2.2.1.n*2))),.row z.2.1.a z.2.1.n z.2.1.c 3 1 (ints (seq (k+1) (z.2.1.n)))]
theorem It.p4 (x y z R:It) (l:List It):(x::y::z::R::l).Perm (R::x::y::z::l):=List.perm_middle (a:=R) (l₁:=[x,y,z]) (l₂:=l)
theorem It.r3 (x y z:It) (l:List It):(x::y::z::l).Perm (z::y::x::l):=by
 refine(List.Perm.swap _ _ _).trans ?_;refine((List.Perm.swap _ _ _).cons y).trans ?_;exact .swap _ _ _
theorem It.b4 (R x y z:It) (A D:List It):(R::x::y::z::(A++D)).Perm (R::(A++x::z::y::D)):=by
 refine List.Perm.cons R (((List.Perm.swap z y (A++D)).cons x).trans ?_);have h:([x,z,y]++(A++D)).Perm (A++([x,z,y]++D)):=by
  rw[<-xDg,<-xDg];exact List.perm_append_comm.append_right _
 exact h
theorem zkV (R x y z:It) (A D:List It):(R::(A++x::y::z::D)).Perm (z::y::x::R::(A++D)):=by
 have h:(R::(A++([x,y,z]++D))).Perm ([x,y,z]++R::(A++D)):=by
  have h1:(A++([x,y,z]++D)).Perm ([x,y,z]++(A++D)):=by
   rw[<-xDg,<-xDg];exact List.perm_append_comm.append_right _
  exact(h1.cons R).trans (zbq R [x,y,z] (A++D))
 exact h.trans (It.r3 x y z _)
theorem zhz (a:Option Addr) (n c:Nat) (Ls:List (ChnD×SlV×SlV×SlV)) (k0:Int) (rest:List It) (w W:World) (F:Fr w W (.row a n c 87 5 (Ls.flatMap chnC)::(Ls.flatMap rwCh++rest))) (hl:Ls.length=n) (hn:n<=1048576) (hq:∀z∈Ls,z.2.1.n<=1048576/\z.2.2.1.n<=1048576/\z.2.2.2.n<=1048576) (hk0:0<=k0) (hk1:k0+tot szCh Ls<=1099500000000):
  Calls Tryz.prog 75 #[.slice a n c,.int .i64 k0] W λe w'=>e= .returned (.int .i64 (k0+(tot szCh Ls:Nat)))/\Fr w w' (.row a n c 87 5 (mkL mcCh szCh k0 Ls)::(mkL mrCh szCh k0 Ls++rest)):=by
 have HL:=xH1 hl;have HQ:=xH1 hq;have HK1:=xH1 hk1;clear hl hq hk1;go_enter Tryz.func75,Tryz.ntmps75;go_wp2
 go_loopw [1,5] (λq i wr=>∃k:Nat,k<=n/\i= .int .i64 k/\q= .int .i64 (k0+(tot szCh (Ls.take k):Nat))/\Fr w wr (.row a n c 87 5 (mkL mcCh szCh k0 (Ls.take k)++(Ls.drop k).flatMap chnC)::(mkL mrCh szCh k0 (Ls.take k)++((Ls.drop k).flatMap rwCh++rest)))) (λ_ i _=>n-(intOf i).toNat)
 case atStart=>exact⟨0,by omega,rfl,by simp[tot],by simpa[mkL] using F⟩
 case round=>
  clear F;obtain⟨k,hk,rfl,rfl,F⟩:=hrel;by_cases hlt:k<n
  ·have hks:k<Ls.length:=by rw[HL.out];exact hlt
   rw[zb1 Ls zcT hks] at F;have ez:=zb0 Ls zcT hks;have hz:=HQ.out (Ls.getD k zcT) (by simp[List.getD,hks]);obtain⟨z,ezz⟩:∃z,z=Ls.getD k zcT:=⟨_,rfl⟩
   rw[<-ezz] at F ez hz;clear ezz;obtain⟨x,i,l,g⟩:=z;have hA:=zb6 mcCh szCh 5 (λ_ _=>rfl) k0 (Ls.take k);rw[xDp,Nat.min_eq_left (by omega)] at hA;have HT:Hid (tot szCh (Ls.take (k+1))=tot szCh (Ls.take k)+szCh (x,i,l,g)):=xH1 (by rw[ez,zbQ]);have HC:=xH1 (zbP mcCh szCh (x,i,l,g) k0 (Ls.take k));have HR:=xH1 (zbP mrCh szCh (x,i,l,g) k0 (Ls.take k));rw[<-ez] at HC HR;clear ez hks;obtain⟨Q,eQ⟩:∃Q:Int,Q=k0+(tot szCh (Ls.take k):Nat):=⟨_,rfl⟩
   have q0:0<=Q:=(by omega);have q1:Q<=1099500000000:=by have:=HK1.out;have:=zbh szCh Ls k;omega
   have HEQ:=xH1 eQ;obtain⟨A,eA⟩:∃A,A=mkL mcCh szCh k0 (Ls.take k):=⟨_,rfl⟩
   obtain⟨AR,eAR⟩:∃A,A=mkL mrCh szCh k0 (Ls.take k):=⟨_,rfl⟩
   obtain⟨D,eD⟩:∃D,D=(Ls.drop (k+1)).flatMap chnC:=⟨_,rfl⟩
   obtain⟨DR,eDR⟩:∃D,D=(Ls.drop (k+1)).flatMap rwCh:=⟨_,rfl⟩
   simp only[List.flatMap_cons,xDg] at F;rw[<-eA] at hA;rw[<-eA,<-eQ] at HC;rw[<-eAR,<-eQ] at HR;rw[<-eA,<-eAR,<-eD,<-eDR] at F;rw[<-eQ];have HD:=xH1 (And.intro eD eDR);clear eQ eA eAR eD eDR;obtain⟨b,rfl,-,-⟩:=zaf (show wr.ownsRow w.heap.size 87 5 (.slice a n c) n (A++(chnC (x,i,l,g)++D)) from F.own 0 rfl) (by omega);obtain⟨hz1,hz2,hz3⟩:=hz;have c0:=F.atA hA 0 rfl;have c1:=F.atA hA 1 rfl;have F10:=F.putA hA 0 (.int .i64 Q);have HA:=xH1 hA;clear hA;simp only[Nat.add_zero] at c0 F10;go_wp2_with fail;obtain⟨W2,hw,F3⟩:=F10.named;rw[<-hw];clear hw F10 F c0 c1;have F4:Fr w W2 (rwI i x.items::rwL l x.senders::rwI g x.getters:: .row (some ⟨b,0,none⟩) n c 87 5 (A++(.int .i64 Q::i.val::l.val::g.val:: .bool x.closed::D))::(AR++(DR++rest))):=F3.perm (zkV _ _ _ _ AR (DR++rest));clear F3;refine(zat _ i.n i.c i.a (ints x.items) (Q+1) W2 (by omega) (by omega) (by omega) (F4.own 0 rfl)).mono ?_;rintro e w3 ⟨rfl,ho,hg⟩;have F5:=(F4.headI ho hg).perm (.swap _ _ _);clear F4 ho hg;have c2:=(F5.perm (It.p4 _ _ _ _ _)).atA HA.out 2 rfl;have q2:(0:Int)<=(i.n:Nat)/\((i.n:Nat):Int)<=1048576:=(by omega);go_wp2_with fail
   refine(zgi _ l.n l.c l.a (zt x.senders) (Q+1+(i.n:Nat)) w3 (by omega) (by omega) (by omega) (F5.own 0 rfl)).mono ?_;rintro e w4 ⟨rfl,ho,hg⟩;have F6:=(F5.headI ho hg).perm (It.r3 _ _ _ _);clear F5 ho hg c2;have c3:=(F6.perm (It.p4 _ _ _ _ _)).atA HA.out 3 rfl;go_wp2_with fail;refine(zat _ g.n g.c g.a (ints x.getters) (Q+1+(i.n:Nat)+(l.n*2:Nat)) w4 (by omega) (by omega) (by omega) (F6.own 0 rfl)).mono ?_;rintro e w5 ⟨rfl,ho,hg⟩;have F7:=((F6.headI ho hg).perm (It.p4 _ _ _ _ _))
   clear F6 ho hg c3;have c4:=F7.atA HA.out 4 rfl;have F8:=F7.putA HA.out 4 (.bool ((Q+1+(i.n:Int)+(l.n:Int)*2+(g.n:Int))% 3==0));have F9:=xH1 (F8.perm (It.b4 _ _ _ _ AR (DR++rest)));clear F7 F8;go_wp2
   go_roundw
   case rel=>exact⟨k+1,by omega,by go_num,by rw[HT.out];have:=HEQ.out;rw[show szCh (x,i,l,g)=1+i.n+l.n*2+g.n+1 from rfl];congr 1;omega,by rw[HC.out,HR.out,<-HD.out.1,<-HD.out.2,xDg,xDg];exact F9.out⟩
   case measure=>simp[intOf];omega
  ·have hkn:k=n:=(by omega);subst hkn;go_wp2;have e:Ls.take k=Ls:=xDt (by rw[HL.out];omega);rw[e,List.drop_of_length_le (by rw[HL.out];omega)] at F;rw[e];go_ret;exact⟨rfl,by simpa using F⟩
theorem zht (a:Option Addr) (n c:Nat) (Ls:List (ChnD×SlV×SlV×SlV)) (k0:Int) (rest:List It) (w W:World) (F:Fr w W (.row a n c 87 5 (mkL mcCh szCh k0 Ls)::(mkL mrCh szCh k0 Ls++rest))) (hl:Ls.length=n) (hn:n<=1048576) (hq:∀z∈Ls,z.2.1.n<=1048576/\z.2.2.1.n<=1048576/\z.2.2.2.n<=1048576) (hk0:0<=k0) (hk1:k0+tot szCh Ls<=1099500000000):
  Calls Tryz.prog 80 #[.slice a n c,.int .i64 k0] W λe w'=>e= .returned (.int .i64 (k0+(tot szCh Ls:Nat)))/\w'=W:=by
 have HL:=xH1 hl;have HQ:=xH1 hq;have HK1:=xH1 hk1;have HF:=xH1 F;clear hl hq hk1 F;go_enter Tryz.func80,Tryz.ntmps80;go_wp2
 go_loopw [1,5] (λq i wr=>∃k:Nat,k<=n/\i= .int .i64 k/\q= .int .i64 (k0+(tot szCh (Ls.take k):Nat))/\wr=W) (λ_ i _=>n-(intOf i).toNat)
 case atStart=>exact⟨0,by omega,rfl,by simp[tot],rfl⟩
 case round=>
  obtain⟨k,hk,rfl,rfl,rfl⟩:=hrel;by_cases hlt:k<n
  ·have hks:k<Ls.length:=by rw[HL.out];exact hlt
   have F:=HF.out;rw[zbx mcCh szCh k0 Ls k,zbx mrCh szCh k0 Ls k,zb1 Ls zcT hks] at F;have ez:=zb0 Ls zcT hks;have hz:=HQ.out (Ls.getD k zcT) (by simp[List.getD,hks]);obtain⟨z,ezz⟩:∃z,z=Ls.getD k zcT:=⟨_,rfl⟩
   rw[<-ezz] at F ez hz;clear ezz;obtain⟨x,i,l,g⟩:=z;have hA:=zb6 mcCh szCh 5 (λ_ _=>rfl) k0 (Ls.take k);rw[xDp,Nat.min_eq_left (by omega)] at hA;have HT:Hid (tot szCh (Ls.take (k+1))=tot szCh (Ls.take k)+szCh (x,i,l,g)):=xH1 (by rw[ez,zbQ]);obtain⟨Q,eQ⟩:∃Q:Int,Q=k0+(tot szCh (Ls.take k):Nat):=⟨_,rfl⟩
   have q0:0<=Q:=(by omega);have q1:Q<=1099500000000:=by have:=HK1.out;have:=zbh szCh Ls k;omega
   have HEQ:=xH1 eQ;rw[<-eQ] at F⊢;clear eQ ez hks;simp only[mkL] at F;obtain⟨b,rfl,-,-⟩:=zaf (show wr.ownsRow w.heap.size 87 5 (.slice a n c) n _ from F.own 0 rfl) (by omega);obtain⟨hz1,hz2,hz3⟩:=hz;have c0:=F.atA hA 0 rfl;have c1:=F.atA hA 1 rfl;have c2:=F.atA hA 2 rfl;have c3:=F.atA hA 3 rfl;have c4:=F.atA hA 4 rfl;have r1:wr.ownsRow w.heap.size 3 1 (.slice i.a i.n i.c) i.n (ints (seq (Q+1) (i.n))):=F.has (.row i.a i.n i.c 3 1 (ints (seq (Q+1) (i.n)))) (by simp[mrCh]);have r2:wr.ownsRow w.heap.size 187 2 (.slice l.a l.n l.c) l.n (ints (seq (Q+1+(i.n:Nat)) (l.n*2))):=F.has (.row l.a l.n l.c 187 2 (ints (seq (Q+1+(i.n:Nat)) (l.n*2)))) (by simp[mrCh]);have r3:wr.ownsRow w.heap.size 3 1 (.slice g.a g.n g.c) g.n (ints (seq (Q+1+(i.n:Nat)+(l.n*2:Nat)) (g.n))):=F.has (.row g.a g.n g.c 3 1 (ints (seq (Q+1+(i.n:Nat)+(l.n*2:Nat)) (g.n)))) (by simp[mrCh]);have R1:=xH1 (Rd.of_owns r1);have R2:=xH1 (Rd.of_owns r2);have R3:=xH1 (Rd.of_owns r3);clear F hA r1 r2 r3;simp only[Nat.add_zero] at c0;have s1:¬(Q+1+(i.n:Nat)<0):=(by omega);have s2:¬(Q+1+(i.n:Nat)+(l.n*2:Nat)<0):=(by omega);have s3:¬(Q+1+(i.n:Nat)+(l.n*2:Nat)+(g.n:Nat)<0):=(by omega);go_wp2_with fail
   refine(zbf i.a i.c i.n (Q+1) _ (by omega) (by omega) (by omega) R1.out).mono ?_;rintro e w9 ⟨rfl,hw⟩;obtain rfl:=hw;go_wp2_with fail;refine(zf9 l.a l.c l.n (l.n*2) (Q+1+(i.n:Nat)) _ rfl (by omega) (by omega) (by omega) R2.out).mono ?_;rintro e w9 ⟨rfl,hw⟩;obtain rfl:=hw;go_wp2_with fail;refine(zbf g.a g.c g.n (Q+1+(i.n:Nat)+(l.n*2:Nat)) _ (by omega) (by omega) (by omega) R3.out).mono ?_;rintro e w9 ⟨rfl,hw⟩;obtain rfl:=hw;have t5:(((Q+1+(i.n:Int)+(l.n:Int)*2+(g.n:Int))% 3==0) !=((Q+1+(i.n:Int)+(l.n:Int)*2+(g.n:Int))% 3==0))=false:=(by simp);go_wp2
   go_roundw
   case rel=>exact⟨k+1,by omega,by go_num,by rw[HT.out];have:=HEQ.out;rw[show szCh (x,i,l,g)=1+i.n+l.n*2+g.n+1 from rfl];congr 1;omega,trivial⟩
   case measure=>simp[intOf];omega
  ·have hkn:k=n:=(by omega);subst hkn;go_wp2;have e:Ls.take k=Ls:=xDt (by rw[HL.out];omega);rw[e];go_ret;exact⟨rfl,rfl⟩
abbrev full (b r1 r2 r3 r4 r5 r6 r7 r8:It) (s3 s4 s5 s6 s7 rest:List It):List It:=b::r1::r2::r3::r4::r5::r6::r7::r8::(s3++(s4++(s5++(s6++(s7++(rest))))))
theorem zgx (P Q S Y:List It) (R:It):(P++R::(Q++(S++Y))).Perm (R::(S++(P++(Q++Y)))):=by
 refine List.perm_middle.trans (List.Perm.cons R ?_);have h:((P++Q)++(S++Y)).Perm (S++((P++Q)++Y)):=by
  rw[<-xDg,<-xDg];exact List.perm_append_comm.append_right _
 simpa only[xDg] using h
theorem zij (b r1 r2 r3 r4 r5 r6 r7 r8:It) (s3 s4 s5 s6 s7 rest:List It):(full b r1 r2 r3 r4 r5 r6 r7 r8 s3 s4 s5 s6 s7 rest).Perm (r3::(s3++(b::r1::r2::r4::r5::r6::r7::r8::(s4++(s5++(s6++(s7++rest))))))):=by
 have h:=zgx [b,r1,r2] ([r4,r5,r6,r7,r8]++([])) s3 (s4++(s5++(s6++(s7++(rest))))) r3;simpa only[full,xDg,List.cons_append,xDq] using h
theorem zil (b r1 r2 r3 r4 r5 r6 r7 r8:It) (s3 s4 s5 s6 s7 rest:List It):(full b r1 r2 r3 r4 r5 r6 r7 r8 s3 s4 s5 s6 s7 rest).Perm (r4::(s4++(b::r1::r2::r3::r5::r6::r7::r8::(s3++(s5++(s6++(s7++rest))))))):=by
 have h:=zgx [b,r1,r2,r3] ([r5,r6,r7,r8]++(s3)) s4 (s5++(s6++(s7++(rest)))) r4;simpa only[full,xDg,List.cons_append,xDq] using h
theorem zh9 (b r1 r2 r3 r4 r5 r6 r7 r8:It) (s3 s4 s5 s6 s7 rest:List It):(full b r1 r2 r3 r4 r5 r6 r7 r8 s3 s4 s5 s6 s7 rest).Perm (r5::(s5++(b::r1::r2::r3::r4::r6::r7::r8::(s3++(s4++(s6++(s7++rest))))))):=by
 have h:=zgx [b,r1,r2,r3,r4] ([r6,r7,r8]++(s3++s4)) s5 (s6++(s7++(rest))) r5;simpa only[full,xDg,List.cons_append,xDq] using h
theorem ziq (b r1 r2 r3 r4 r5 r6 r7 r8:It) (s3 s4 s5 s6 s7 rest:List It):(full b r1 r2 r3 r4 r5 r6 r7 r8 s3 s4 s5 s6 s7 rest).Perm (r6::(s6++(b::r1::r2::r3::r4::r5::r7::r8::(s3++(s4++(s5++(s7++rest))))))):=by
 have h:=zgx [b,r1,r2,r3,r4,r5] ([r7,r8]++(s3++s4++s5)) s6 (s7++(rest)) r6;simpa only[full,xDg,List.cons_append,xDq] using h
theorem zh0 (b r1 r2 r3 r4 r5 r6 r7 r8:It) (s3 s4 s5 s6 s7 rest:List It):(full b r1 r2 r3 r4 r5 r6 r7 r8 s3 s4 s5 s6 s7 rest).Perm (r7::(s7++(b::r1::r2::r3::r4::r5::r6::r8::(s3++(s4++(s5++(s6++rest))))))):=by
 have h:=zgx [b,r1,r2,r3,r4,r5,r6] ([r8]++(s3++s4++s5++s6)) s7 (rest) r7;simpa only[full,xDg,List.cons_append,xDq] using h
abbrev lst0 (b:It) (v:StV) (L:StL) (s:StD) (rest:List It):List It:=full b (.row v.pl.a v.pl.n v.pl.c 3 1 (ints s.places)) (.row v.st.a v.st.n v.st.c 3 1 (ints s.status)) (.row v.se.a v.se.n v.se.c 74 3 (L.se.flatMap semC)) (.row v.on.a v.on.n v.on.c 78 4 (L.on.flatMap zbo)) (.row v.gr.a v.gr.n v.gr.c 80 2 (L.gr.flatMap grpC)) (.row v.ba.a v.ba.n v.ba.c 82 3 (L.ba.flatMap barC)) (.row v.ch.a v.ch.n v.ch.c 87 5 (L.ch.flatMap chnC)) (.row v.sa.a v.sa.n v.sa.c 3 1 (ints s.said)) (L.se.flatMap rwSe) (L.on.flatMap rwOn) (L.gr.flatMap rwGr) (L.ba.flatMap rwBa) (L.ch.flatMap rwCh) rest
abbrev lstK (b:It) (v:StV) (L:StL) (k0:Int) (rest:List It):List It:=full b (.row v.pl.a v.pl.n v.pl.c 3 1 (ints (seq (k0) v.pl.n))) (.row v.st.a v.st.n v.st.c 3 1 (ints (seq (k0+(v.pl.n:Nat)) v.st.n))) (.row v.se.a v.se.n v.se.c 74 3 (mkL mcSe szSe (k0+(v.pl.n:Nat)+(v.st.n:Nat)) L.se)) (.row v.on.a v.on.n v.on.c 78 4 (mkL mcOn szOn (k0+(v.pl.n:Nat)+(v.st.n:Nat)+(tot szSe L.se:Nat)) L.on)) (.row v.gr.a v.gr.n v.gr.c 80 2 (mkL mcGr szGr (k0+(v.pl.n:Nat)+(v.st.n:Nat)+(tot szSe L.se:Nat)+(tot szOn L.on:Nat)) L.gr)) (.row v.ba.a v.ba.n v.ba.c 82 3 (mkL mcBa szBa (k0+(v.pl.n:Nat)+(v.st.n:Nat)+(tot szSe L.se:Nat)+(tot szOn L.on:Nat)+(tot szGr L.gr:Nat)) L.ba)) (.row v.ch.a v.ch.n v.ch.c 87 5 (mkL mcCh szCh (k0+(v.pl.n:Nat)+(v.st.n:Nat)+(tot szSe L.se:Nat)+(tot szOn L.on:Nat)+(tot szGr L.gr:Nat)+(tot szBa L.ba:Nat)) L.ch)) (.row v.sa.a v.sa.n v.sa.c 3 1 (ints (seq (k0+(v.pl.n:Nat)+(v.st.n:Nat)+(tot szSe L.se:Nat)+(tot szOn L.on:Nat)+(tot szGr L.gr:Nat)+(tot szBa L.ba:Nat)+(tot szCh L.ch:Nat)) v.sa.n))) (mkL mrSe szSe (k0+(v.pl.n:Nat)+(v.st.n:Nat)) L.se) (mkL mrOn szOn (k0+(v.pl.n:Nat)+(v.st.n:Nat)+(tot szSe L.se:Nat)) L.on) (mkL mrGr szGr (k0+(v.pl.n:Nat)+(v.st.n:Nat)+(tot szSe L.se:Nat)+(tot szOn L.on:Nat)) L.gr) (mkL mrBa szBa (k0+(v.pl.n:Nat)+(v.st.n:Nat)+(tot szSe L.se:Nat)+(tot szOn L.on:Nat)+(tot szGr L.gr:Nat)) L.ba) (mkL mrCh szCh (k0+(v.pl.n:Nat)+(v.st.n:Nat)+(tot szSe L.se:Nat)+(tot szOn L.on:Nat)+(tot szGr L.gr:Nat)+(tot szBa L.ba:Nat)) L.ch) rest
def sumS (v:StV) (L:StL):Nat:=v.pl.n+v.st.n+tot szSe L.se+tot szOn L.on+tot szGr L.gr+tot szBa L.ba+tot szCh L.ch+v.sa.n
structure SmM (v:StV) (L:StL):Prop where
 pl:v.pl.n<=1048576
 st:v.st.n<=1048576
 sa:v.sa.n<=1048576
 se:L.se.length=v.se.n/\v.se.n<=1048576
 on:L.on.length=v.on.n/\v.on.n<=1048576
 gr:L.gr.length=v.gr.n/\v.gr.n<=1048576
 ba:L.ba.length=v.ba.n/\v.ba.n<=1048576
 ch:L.ch.length=v.ch.n/\v.ch.n<=1048576
 qse:∀z∈L.se,z.2.n=z.1.queue.length/\z.2.n<=1048576
 qon:∀z∈L.on,z.2.n=z.1.waits.length/\z.2.n<=1048576
 qgr:∀z∈L.gr,z.2.n=z.1.waits.length/\z.2.n<=1048576
 qba:∀z∈L.ba,z.2.n=z.1.waits.length/\z.2.n<=1048576
 qch:∀z∈L.ch,z.2.1.n<=1048576/\z.2.2.1.n<=1048576/\z.2.2.2.n<=1048576
 sum:sumS v L<=1000000000
theorem zf7 (c b r1 r2 r3 r4 r5 r6 r7 r8:It) (s3 s4 s5 s6 s7 rest:List It):(c::full b r1 r2 r3 r4 r5 r6 r7 r8 s3 s4 s5 s6 s7 rest).Perm (full c r1 r2 r3 r4 r5 r6 r7 r8 s3 s4 s5 s6 s7 (b::rest)):=by
 refine List.Perm.cons c ?_;have h:=zbq b ([r1,r2,r3,r4,r5,r6,r7,r8]++(s3++s4++s5++s6++s7)) rest;simpa only[full,xDg,List.cons_append,xDq] using h
theorem zhA (v:StV) (L:StL) (s:StD) (k0:Int) (b0:It) (rest:List It) (w W:World) (F:Fr w W (lst0 b0 v L s rest)) (hz:SmM v L) (hk0:0<=k0) (hk1:k0<=1000000000):
  Calls Tryz.prog 38 #[v.val,.int .i64 k0] W λe w'=>e= .returned (.int .i64 (k0+(v.pl.n:Nat)+(v.st.n:Nat)+(tot szSe L.se:Nat)+(tot szOn L.on:Nat)+(tot szGr L.gr:Nat)+(tot szBa L.ba:Nat)+(tot szCh L.ch:Nat)+(v.sa.n:Nat)))/\Fr w w' (lstK b0 v L k0 rest):=by
 have HZ:=xH1 hz;have z1:=hz.pl;have z2:=hz.st;have z8:=hz.sa;have hs:=hz.sum;unfold sumS at hs;have z3:=hz.se.2;have z4:=hz.on.2;have z5:=hz.gr.2;have z6:=hz.ba.2;have z7:=hz.ch.2;have F1:=(F.alloc (svC v) 33).perm (zf7 _ _ _ _ _ _ _ _ _ _ _ _ _ _ _ _);clear F hz;have cs:=F1.c9 0 rfl;go_enter Tryz.func38,Tryz.ntmps38;go_wp2_with fail;refine(zat _ v.pl.n v.pl.c v.pl.a (ints s.places) _ _ (by omega) (by omega) (by omega) (F1.own 1 rfl)).mono ?_;rintro e w1 ⟨rfl,ho,hg⟩;have F2:=F1.app 1 rfl hg ho (λq h=> .inl h);clear F1 ho hg cs;have cs:=F2.c9 0 rfl;go_wp2_with fail;refine(zat _ v.st.n v.st.c v.st.a (ints s.status) _ _ (by omega) (by omega) (by omega) (F2.own 2 rfl)).mono ?_;rintro e w2 ⟨rfl,ho,hg⟩;have F3:=F2.app 2 rfl hg ho (λq h=> .inl h);clear F2 ho hg cs;have cs:=F3.c9 0 rfl;go_wp2_with fail;refine(zih v.se.a v.se.n v.se.c L.se _ _ w _ (F3.perm (zij _ _ _ _ _ _ _ _ _ _ _ _ _ _ _)) HZ.out.se.1 (by omega) HZ.out.qse (by omega) (by omega)).mono ?_;rintro e w3 ⟨rfl,Fx⟩;have F4:=Fx.perm (zij _ _ _ _ _ _ _ _ _ _ _ _ _ _ _).symm;clear F3 Fx cs;have cs:=F4.c9 0 rfl;go_wp2_with fail
 refine(zhC v.on.a v.on.n v.on.c L.on _ _ w _ (F4.perm (zil _ _ _ _ _ _ _ _ _ _ _ _ _ _ _)) HZ.out.on.1 (by omega) HZ.out.qon (by omega) (by omega)).mono ?_;rintro e w4 ⟨rfl,Fx⟩;have F5:=Fx.perm (zil _ _ _ _ _ _ _ _ _ _ _ _ _ _ _).symm;clear F4 Fx cs;have cs:=F5.c9 0 rfl;go_wp2_with fail;refine(zgM v.gr.a v.gr.n v.gr.c L.gr _ _ w _ (F5.perm (zh9 _ _ _ _ _ _ _ _ _ _ _ _ _ _ _)) HZ.out.gr.1 (by omega) HZ.out.qgr (by omega) (by omega)).mono ?_;rintro e w5 ⟨rfl,Fx⟩;have F6:=Fx.perm (zh9 _ _ _ _ _ _ _ _ _ _ _ _ _ _ _).symm;clear F5 Fx cs;have cs:=F6.c9 0 rfl;go_wp2_with fail;refine(zfQ v.ba.a v.ba.n v.ba.c L.ba _ _ w _ (F6.perm (ziq _ _ _ _ _ _ _ _ _ _ _ _ _ _ _)) HZ.out.ba.1 (by omega) HZ.out.qba (by omega) (by omega)).mono ?_;rintro e w6 ⟨rfl,Fx⟩;have F7:=Fx.perm (ziq _ _ _ _ _ _ _ _ _ _ _ _ _ _ _).symm;clear F6 Fx cs;have cs:=F7.c9 0 rfl;go_wp2_with fail;refine(zhz v.ch.a v.ch.n v.ch.c L.ch _ _ w _ (F7.perm (zh0 _ _ _ _ _ _ _ _ _ _ _ _ _ _ _)) HZ.out.ch.1 (by omega) HZ.out.qch (by omega) (by omega)).mono ?_;rintro e w7 ⟨rfl,Fx⟩;have F8:=Fx.perm (zh0 _ _ _ _ _ _ _ _ _ _ _ _ _ _ _).symm;clear F7 Fx cs;have cs:=F8.c9 0 rfl;go_wp2_with fail
 refine(zat _ v.sa.n v.sa.c v.sa.a (ints s.said) _ _ (by omega) (by omega) (by omega) (F8.own 8 rfl)).mono ?_;rintro e w8 ⟨rfl,ho,hg⟩;have F9:=F8.app 8 rfl hg ho (λq h=> .inl h);clear F8 ho hg cs;have cs:=F9.c9 0 rfl;have FZ:=xH1 (F9.perm (zf7 _ _ _ _ _ _ _ _ _ _ _ _ _ _ _ _).symm);clear F9 cs;go_wp2;go_ret;exact⟨rfl,FZ.out.sub (.cons _ (.refl _))⟩
theorem zhx (v:StV) (L:StL) (_:StD) (k0:Int) (b0:It) (rest:List It) (w W:World) (F:Fr w W (lstK b0 v L k0 rest)) (hz:SmM v L) (hk0:0<=k0) (hk1:k0<=1000000000):
  Calls Tryz.prog 39 #[v.val,.int .i64 k0] W λe w'=>e= .returned (.int .i64 (k0+(v.pl.n:Nat)+(v.st.n:Nat)+(tot szSe L.se:Nat)+(tot szOn L.on:Nat)+(tot szGr L.gr:Nat)+(tot szBa L.ba:Nat)+(tot szCh L.ch:Nat)+(v.sa.n:Nat)))/\xW W w':=by
 have HZ:=xH1 hz;have z1:=hz.pl;have z2:=hz.st;have z8:=hz.sa;have hs:=hz.sum;unfold sumS at hs;have z3:=hz.se.2;have z4:=hz.on.2;have z5:=hz.gr.2;have z6:=hz.ba.2;have z7:=hz.ch.2;have hb:xW W (W.alloc (.cells (svC v) 33)):=xA1;have F1:=F.call hb;have kb:Blk (W.alloc (.cells (svC v) 33)) W.heap.size (svC v) 33:=Blk.new _ _ _;have cb0:=kb.cell 0 rfl;have cb1:=kb.cell 1 rfl;have cb2:=kb.cell 2 rfl;have cb3:=kb.cell 3 rfl;have cb4:=kb.cell 4 rfl;have cb5:=kb.cell 5 rfl;have cb6:=kb.cell 6 rfl;have cb7:=kb.cell 7 rfl;have cb8:=kb.cell 8 rfl;have HB:=xH1 hb;clear hb kb F hz;obtain⟨W1,hw⟩:∃x,x=W.alloc (.cells (svC v) 33):=⟨_,rfl⟩
 rw[<-hw] at cb0 cb1 cb2 cb3 cb4 cb5 cb6 cb7 cb8 HB F1;have HF:=xH1 F1;clear F1;go_enter Tryz.func39,Tryz.ntmps39;go_wp2_with fail;rw[<-hw];clear hw;refine(zbf v.pl.a v.pl.c v.pl.n _ _ (by omega) (by omega) (by omega) (HF.out.rdRow 1 rfl)).mono ?_;rintro e wz ⟨rfl,hw⟩;obtain rfl:=hw;have n1:¬(k0+(v.pl.n:Nat)<0):=by omega
 go_wp2_with fail;refine(zbf v.st.a v.st.c v.st.n _ _ (by omega) (by omega) (by omega) (HF.out.rdRow 2 rfl)).mono ?_;rintro e wz ⟨rfl,hw⟩;obtain rfl:=hw;have n2:¬(k0+(v.pl.n:Nat)+(v.st.n:Nat)<0):=by omega
 go_wp2_with fail;refine(zii v.se.a v.se.n v.se.c L.se _ _ w _ (HF.out.perm (zij _ _ _ _ _ _ _ _ _ _ _ _ _ _ _)) HZ.out.se.1 (by omega) (λz hz=>(HZ.out.qse z hz).2) (by omega) (by omega)).mono ?_;rintro e wz ⟨rfl,hw⟩;obtain rfl:=hw;have n3:¬(k0+(v.pl.n:Nat)+(v.st.n:Nat)+(tot szSe L.se:Nat)<0):=by omega
 go_wp2_with fail;refine(zhL v.on.a v.on.n v.on.c L.on _ _ w _ (HF.out.perm (zil _ _ _ _ _ _ _ _ _ _ _ _ _ _ _)) HZ.out.on.1 (by omega) (λz hz=>(HZ.out.qon z hz).2) (by omega) (by omega)).mono ?_;rintro e wz ⟨rfl,hw⟩;obtain rfl:=hw;have n4:¬(k0+(v.pl.n:Nat)+(v.st.n:Nat)+(tot szSe L.se:Nat)+(tot szOn L.on:Nat)<0):=by omega
 go_wp2_with fail;refine(zgY v.gr.a v.gr.n v.gr.c L.gr _ _ w _ (HF.out.perm (zh9 _ _ _ _ _ _ _ _ _ _ _ _ _ _ _)) HZ.out.gr.1 (by omega) (λz hz=>(HZ.out.qgr z hz).2) (by omega) (by omega)).mono ?_;rintro e wz ⟨rfl,hw⟩;obtain rfl:=hw;have n5:¬(k0+(v.pl.n:Nat)+(v.st.n:Nat)+(tot szSe L.se:Nat)+(tot szOn L.on:Nat)+(tot szGr L.gr:Nat)<0):=by omega
 go_wp2_with fail;refine(zf2 v.ba.a v.ba.n v.ba.c L.ba _ _ w _ (HF.out.perm (ziq _ _ _ _ _ _ _ _ _ _ _ _ _ _ _)) HZ.out.ba.1 (by omega) (λz hz=>(HZ.out.qba z hz).2) (by omega) (by omega)).mono ?_;rintro e wz ⟨rfl,hw⟩;obtain rfl:=hw;have n6:¬(k0+(v.pl.n:Nat)+(v.st.n:Nat)+(tot szSe L.se:Nat)+(tot szOn L.on:Nat)+(tot szGr L.gr:Nat)+(tot szBa L.ba:Nat)<0):=by omega
 go_wp2_with fail;refine(zht v.ch.a v.ch.n v.ch.c L.ch _ _ w _ (HF.out.perm (zh0 _ _ _ _ _ _ _ _ _ _ _ _ _ _ _)) HZ.out.ch.1 (by omega) HZ.out.qch (by omega) (by omega)).mono ?_;rintro e wz ⟨rfl,hw⟩;obtain rfl:=hw;have n7:¬(k0+(v.pl.n:Nat)+(v.st.n:Nat)+(tot szSe L.se:Nat)+(tot szOn L.on:Nat)+(tot szGr L.gr:Nat)+(tot szBa L.ba:Nat)+(tot szCh L.ch:Nat)<0):=by omega
 go_wp2_with fail;refine(zbf v.sa.a v.sa.c v.sa.n _ _ (by omega) (by omega) (by omega) (HF.out.rdRow 8 rfl)).mono ?_;rintro e wz ⟨rfl,hw⟩;obtain rfl:=hw;have n8:¬(k0+(v.pl.n:Nat)+(v.st.n:Nat)+(tot szSe L.se:Nat)+(tot szOn L.on:Nat)+(tot szGr L.gr:Nat)+(tot szBa L.ba:Nat)+(tot szCh L.ch:Nat)+(v.sa.n:Nat)<0):=by omega
 go_wp2;go_ret;exact⟨rfl,HB.out⟩
theorem zjK (b r1 r2 r3 r4 r5 r6 r7 r8:It) (s3 s4 s5 s6 s7 rest:List It) (x y:It):(full b r1 r2 r3 r4 r5 r6 r7 r8 s3 s4 s5 s6 s7 (x::y::rest)).Perm (y::full b r1 r2 r3 r4 r5 r6 r7 r8 s3 s4 s5 s6 s7 (x::rest)):=by
 have h:=List.perm_middle (a:=y) (l₁:=b::([r1,r2,r3,r4,r5,r6,r7,r8]++((s3++(s4++(s5++(s6++(s7)))))++[x]))) (l₂:=rest);simpa only[full,xDg,List.cons_append,xDq] using h
theorem ziG (v:StV) (L:StL) (s:StD) (a:Option Addr) (n c:Nat) (tr:List Int) (k0:Int) (b0:It) (rest:List It) (w W:World) (F:Fr w W (lst0 b0 v L s ((.row a n c 3 1 (ints tr))::rest))) (hz:SmM v L) (hn:n<=1048576) (hk0:0<=k0) (hk1:k0<=1000000000):
  Calls Tryz.prog 17 #[.agg (rC v a n c),.int .i64 k0] W λe w'=>e= .returned (.int .i64 (k0+(v.pl.n:Nat)+(v.st.n:Nat)+(tot szSe L.se:Nat)+(tot szOn L.on:Nat)+(tot szGr L.gr:Nat)+(tot szBa L.ba:Nat)+(tot szCh L.ch:Nat)+(v.sa.n:Nat)+(n:Nat)))/\Fr w w' (lstK b0 v L k0 ((.row a n c 3 1 (ints (seq (k0+(v.pl.n:Nat)+(v.st.n:Nat)+(tot szSe L.se:Nat)+(tot szOn L.on:Nat)+(tot szGr L.gr:Nat)+(tot szBa L.ba:Nat)+(tot szCh L.ch:Nat)+(v.sa.n:Nat)) n)))::rest)):=by
 have HZ:=xH1 hz;have hs:=hz.sum;unfold sumS at hs;have F1:=(F.alloc (rC v a n c) 35).perm (zf7 _ _ _ _ _ _ _ _ _ _ _ _ _ _ _ _);clear F hz;have cs:=F1.c10 0 rfl;go_enter Tryz.func17,Tryz.ntmps17;go_wp2_with fail;refine(zhA v L s k0 _ _ w _ F1 HZ.out hk0 hk1).mono ?_;rintro e w1 ⟨rfl,F2⟩;clear F1 cs;have cs:=F2.c10 0 rfl;have F3:=F2.perm (zjK _ _ _ _ _ _ _ _ _ _ _ _ _ _ _ _ _);go_wp2_with fail;refine(zat _ n c a (ints tr) _ _ (by omega) (by omega) (by omega) (F3.own 0 rfl)).mono ?_;rintro e w2 ⟨rfl,ho,hg⟩;have F4:=xH1 (((F3.headI ho hg).perm (zjK _ _ _ _ _ _ _ _ _ _ _ _ _ _ _ _ _).symm).perm (zf7 _ _ _ _ _ _ _ _ _ _ _ _ _ _ _ _).symm);clear F2 F3 cs ho hg;go_wp2;go_ret;exact⟨rfl,F4.out.sub (.cons _ (.refl _))⟩
theorem zfB (v:StV) (L:StL) (a:Option Addr) (n c:Nat) (k0:Int) (b0:It) (rest:List It) (w W:World) (F:Fr w W (lstK b0 v L k0 ((.row a n c 3 1 (ints (seq (k0+(v.pl.n:Nat)+(v.st.n:Nat)+(tot szSe L.se:Nat)+(tot szOn L.on:Nat)+(tot szGr L.gr:Nat)+(tot szBa L.ba:Nat)+(tot szCh L.ch:Nat)+(v.sa.n:Nat)) n)))::rest))) (hz:SmM v L) (hn:n<=1048576) (hk0:0<=k0) (hk1:k0<=1000000000):
  Calls Tryz.prog 18 #[.agg (rC v a n c),.int .i64 k0] W λe w'=>e= .returned (.int .i64 (k0+(v.pl.n:Nat)+(v.st.n:Nat)+(tot szSe L.se:Nat)+(tot szOn L.on:Nat)+(tot szGr L.gr:Nat)+(tot szBa L.ba:Nat)+(tot szCh L.ch:Nat)+(v.sa.n:Nat)+(n:Nat)))/\xW W w':=by
 have HZ:=xH1 hz;have hs:=hz.sum;unfold sumS at hs;have hb:xW W (W.alloc (.cells (rC v a n c) 35)):=xA1;have kb:Blk (W.alloc (.cells (rC v a n c) 35)) W.heap.size (rC v a n c) 35:=Blk.new _ _ _;have HF:=xH1 (F.call hb);have HB:=xH1 hb;clear F hz hb;have cb0:=kb.cell 0 rfl;have cb1:=kb.cell 1 rfl;have cb2:=kb.cell 2 rfl;have cb3:=kb.cell 3 rfl;have cb4:=kb.cell 4 rfl;have cb5:=kb.cell 5 rfl;have cb6:=kb.cell 6 rfl;have cb7:=kb.cell 7 rfl;have cb8:=kb.cell 8 rfl;go_enter Tryz.func18,Tryz.ntmps18;go_wp2_with fail;refine(zhx v L ⟨[],[],[],[],[],[],[],[],0⟩ k0 b0 _ w _ HF.out HZ.out hk0 hk1).mono ?_;rintro e w1 ⟨rfl,hb⟩;replace HF:=xH1 (HF.out.call hb);replace HB:=xH1 (HB.out.trans (hb.mono HB.out.size));replace kb:=kb.below hb;clear hb cb0 cb1 cb2 cb3 cb4 cb5 cb6 cb7 cb8;have cb9:=kb.cell 9 rfl;have n9:¬(k0+(v.pl.n:Nat)+(v.st.n:Nat)+(tot szSe L.se:Nat)+(tot szOn L.on:Nat)+(tot szGr L.gr:Nat)+(tot szBa L.ba:Nat)+(tot szCh L.ch:Nat)+(v.sa.n:Nat)<0):=by omega
 have hr:Rd _ a (ints (seq (k0+(v.pl.n:Nat)+(v.st.n:Nat)+(tot szSe L.se:Nat)+(tot szOn L.on:Nat)+(tot szGr L.gr:Nat)+(tot szBa L.ba:Nat)+(tot szCh L.ch:Nat)+(v.sa.n:Nat)) n)):=Rd.of_owns (show World.ownsRow _ w.heap.size 3 1 (.slice a n c) n (ints (seq (k0+(v.pl.n:Nat)+(v.st.n:Nat)+(tot szSe L.se:Nat)+(tot szOn L.on:Nat)+(tot szGr L.gr:Nat)+(tot szBa L.ba:Nat)+(tot szCh L.ch:Nat)+(v.sa.n:Nat)) n)) from HF.out.has (.row a n c 3 1 (ints (seq (k0+(v.pl.n:Nat)+(v.st.n:Nat)+(tot szSe L.se:Nat)+(tot szOn L.on:Nat)+(tot szGr L.gr:Nat)+(tot szBa L.ba:Nat)+(tot szCh L.ch:Nat)+(v.sa.n:Nat)) n))) (by simp));go_wp2_with fail;refine(zbf a c n (k0+(v.pl.n:Nat)+(v.st.n:Nat)+(tot szSe L.se:Nat)+(tot szOn L.on:Nat)+(tot szGr L.gr:Nat)+(tot szBa L.ba:Nat)+(tot szCh L.ch:Nat)+(v.sa.n:Nat)) _ (by omega) (by omega) (by omega) hr).mono ?_;rintro e wz ⟨rfl,hw⟩;obtain rfl:=hw;have n10:¬(k0+(v.pl.n:Nat)+(v.st.n:Nat)+(tot szSe L.se:Nat)+(tot szOn L.on:Nat)+(tot szGr L.gr:Nat)+(tot szBa L.ba:Nat)+(tot szCh L.ch:Nat)+(v.sa.n:Nat)+(n:Nat)<0):=by omega
 go_wp2;go_ret;exact⟨rfl,HB.out⟩
theorem zcd (a1 a2:Option Addr) (n c1 c2:Nat) (xs:List Int) (w:World) (hn:n<=1099511627776) (hl:xs.length=n) (h1:Rd w a1 (ints xs)) (h2:Rd w a2 (ints xs)):
  Calls Tryz.prog 14 #[.slice a1 n c1,.slice a2 n c2] w λe w'=>e= .returned (.bool true)/\xW w w':=
 (zde a1 a2 n c1 c2 xs w hl hn h1 h2).mono λ_ _ ⟨h,n,hw⟩=>⟨h,by rw[hw];exact zbi _ _⟩
theorem ziC (x:Int×Int) (w:World):
  Calls Tryz.prog 174 #[.agg #[.int .i64 x.1,.int .i64 x.2],.agg #[.int .i64 x.1,.int .i64 x.2]] w λe w'=>e= .returned (.bool true)/\xW w w':=by
 go_enter Tryz.func174,Tryz.ntmps174;go_wp2;go_ret;exact⟨rfl,(xA1).alloc (by simp) _⟩
theorem zhy (a1 a2:Option Addr) (n c1 c2:Nat) (xs:List (Int×Int)) (w:World) (hn:n<=1099511627776) (hl:xs.length=n) (h1:Rd w a1 (zt xs)) (h2:Rd w a2 (zt xs)):
  Calls Tryz.prog 164 #[.slice a1 n c1,.slice a2 n c2] w λe w'=>e= .returned (.bool true)/\xW w w':=by
 have HL:=xH1 hl;clear hl;go_enter Tryz.func164,Tryz.ntmps164;go_wp2
 go_loopw [5] (λi wr=>∃k:Nat,k<=n/\i= .int .i64 k/\xW w wr) (λi _=>n-(intOf i).toNat)
 case atStart=>exact⟨0,by omega,rfl,Below.refl _ _⟩
 case round=>
  obtain⟨k,hk,rfl,hb⟩:=hrel;by_cases hlt:k<n
  ·obtain⟨b1,o1,rfl,g1'⟩:=(h1.below hb).pair (by have:=HL.out;omega);obtain⟨b2,o2,rfl,g2'⟩:=(h2.below hb).pair (by have:=HL.out;omega);obtain⟨g1a,g1b⟩:=g1' k (by have:=HL.out;omega);obtain⟨g2a,g2b⟩:=g2' k (by have:=HL.out;omega);obtain⟨x,hx⟩:∃x,x=xs.getD k (0,0):=⟨_,rfl⟩
   rw[<-hx] at g1a g1b g2a g2b;clear g1' g2' hx;go_wp2;go_still_tail 8,(by kernel_rfl)
   go_wp2_with fail;refine(ziC x wr.drew).mono ?_;rintro e w2 ⟨rfl,b2'⟩;go_wp2
   go_roundw
   case rel=>exact⟨k+1,by omega,by go_num,hb.drew.trans (b2'.mono hb.size)⟩
   case measure=>simp[intOf];omega
  ·have hkm:k=n:=(by omega);subst hkm;go_wp2;go_ret;exact⟨rfl,hb⟩
theorem zia (x:Int×Int) (w:World):
  Calls Tryz.prog 175 #[.agg #[.int .i64 x.1,.int .i64 x.2],.agg #[.int .i64 x.1,.int .i64 x.2]] w λe w'=>e= .returned (.bool true)/\xW w w':=by
 go_enter Tryz.func175,Tryz.ntmps175;go_wp2;go_ret;exact⟨rfl,(xA1).alloc (by simp) _⟩
theorem zhE (a1 a2:Option Addr) (n c1 c2:Nat) (xs:List (Int×Int)) (w:World) (hn:n<=1099511627776) (hl:xs.length=n) (h1:Rd w a1 (zt xs)) (h2:Rd w a2 (zt xs)):
  Calls Tryz.prog 165 #[.slice a1 n c1,.slice a2 n c2] w λe w'=>e= .returned (.bool true)/\xW w w':=by
 have HL:=xH1 hl;clear hl;go_enter Tryz.func165,Tryz.ntmps165;go_wp2
 go_loopw [5] (λi wr=>∃k:Nat,k<=n/\i= .int .i64 k/\xW w wr) (λi _=>n-(intOf i).toNat)
 case atStart=>exact⟨0,by omega,rfl,Below.refl _ _⟩
 case round=>
  obtain⟨k,hk,rfl,hb⟩:=hrel;by_cases hlt:k<n
  ·obtain⟨b1,o1,rfl,g1'⟩:=(h1.below hb).pair (by have:=HL.out;omega);obtain⟨b2,o2,rfl,g2'⟩:=(h2.below hb).pair (by have:=HL.out;omega);obtain⟨g1a,g1b⟩:=g1' k (by have:=HL.out;omega);obtain⟨g2a,g2b⟩:=g2' k (by have:=HL.out;omega);obtain⟨x,hx⟩:∃x,x=xs.getD k (0,0):=⟨_,rfl⟩
   rw[<-hx] at g1a g1b g2a g2b;clear g1' g2' hx;go_wp2;go_still_tail 8,(by kernel_rfl)
   go_wp2_with fail;refine(zia x wr.drew).mono ?_;rintro e w2 ⟨rfl,b2'⟩;go_wp2
   go_roundw
   case rel=>exact⟨k+1,by omega,by go_num,hb.drew.trans (b2'.mono hb.size)⟩
   case measure=>simp[intOf];omega
  ·have hkm:k=n:=(by omega);subst hkm;go_wp2;go_ret;exact⟨rfl,hb⟩
theorem zjX (x:SemD) (q r:SlV) (n:Nat) (w:World) (hn:n<=1048576) (hl:x.queue.length=n) (h1:Rd w q.a (zt x.queue)) (h2:Rd w r.a (zt x.queue)):
  Calls Tryz.prog 121 #[.agg #[.int .i64 x.free,.int .i64 x.limit,.slice q.a n q.c],.agg #[.int .i64 x.free,.int .i64 x.limit,.slice r.a n r.c]] w λe w'=>e= .returned (.bool true)/\xW w w':=by
 have HL:=xH1 hl;have HQ:=xH1 h1;have HR:=xH1 h2;have F:=((Fr.start w).alloc #[.int .i64 x.free,.int .i64 x.limit,.slice q.a n q.c] 74).alloc #[.int .i64 x.free,.int .i64 x.limit,.slice r.a n r.c] 74;simp only[xDe] at F;have HB:=xH1 F.bel;have c1:=F.c3 0 rfl;have c2:=F.c3 1 rfl;clear hl h1 h2 F;go_enter Tryz.func121,Tryz.ntmps121;go_wp2_with fail;refine(zhy q.a r.a n q.c r.c x.queue _ (by omega) HL.out (HQ.out.below HB.out) (HR.out.below HB.out)).mono ?_;rintro e w1 ⟨rfl,hb⟩;replace HB:=xH1 (HB.out.trans (hb.mono HB.out.size));clear hb c1 c2;go_wp2;go_ret;exact⟨rfl,HB.out⟩
theorem zjj (a1 a2:Option Addr) (n c1 c2:Nat) (v1 v2:StV) (L1 L2:StL) (s:StD) (w:World) (e1:v1.se=⟨a1,n,c1⟩) (e2:v2.se=⟨a2,n,c2⟩) (hn:n<=1048576) (hl:s.sems.length=n) (hm:∀k,(s.sems.getD k zG).queue.length<=1048576) (h1:StR w v1 L1 s) (h2:StR w v2 L2 s):
  Calls Tryz.prog 64 #[.slice a1 n c1,.slice a2 n c2] w λe w'=>e= .returned (.bool true)/\xW w w':=by
 obtain⟨p1,p2,p3,p4,p5,p6,p7,p8,p9⟩:=v1;obtain⟨u1,u2,u3,u4,u5,u6,u7,u8,u9⟩:=v2;dsimp only at e1 e2;subst e1 e2;have HN1:=xH1 hl.symm;have HS1:=xH1 h1;have HS2:=xH1 h2;have HM:=xH1 hm;clear hl h1 h2 hm;go_enter Tryz.func64,Tryz.ntmps64;go_wp2
 go_loopw [5] (λi wr=>∃k:Nat,k<=n/\i= .int .i64 k/\xW w wr) (λi _=>n-(intOf i).toNat)
 case atStart=>exact⟨0,by omega,rfl,Below.refl _ _⟩
 case round=>
  obtain⟨k,hk,rfl,hb⟩:=hrel;by_cases hlt:k<n
  ·obtain⟨x,q,b1,o1,HX,rfl,g0,g1,g2,Q0,QL,-⟩:=(HS1.out.below hb).at_se (j:=k) (by rw[<-HN1.out];exact hlt);obtain⟨x',r,b2,o2,HX',rfl,e0,e1,e2,R0,RL,-⟩:=(HS2.out.below hb).at_se (j:=k) (by rw[<-HN1.out];exact hlt);obtain rfl:x=x':=HX.out.trans HX'.out.symm;rw[show r.n=q.n from RL.out.trans QL.out.symm] at e2;go_wp2;go_still_tail 8,(by kernel_rfl)
   go_wp2_with fail;refine(zjX x q r q.n wr.drew (by rw[QL.out,HX.out];exact HM.out k) QL.out.symm Q0.out R0.out).mono ?_;rintro e w2 ⟨rfl,b2'⟩;go_wp2
   go_roundw
   case rel=>exact⟨k+1,by omega,by go_num,hb.drew.trans (b2'.mono hb.size)⟩
   case measure=>simp[intOf];omega
  ·have hkm:k=n:=(by omega);subst hkm;go_wp2;go_ret;exact⟨rfl,hb⟩
theorem zjr (x:zaj) (q r:SlV) (n:Nat) (w:World) (hn:n<=1048576) (hl:x.waits.length=n) (h1:Rd w q.a (ints x.waits)) (h2:Rd w r.a (ints x.waits)):
  Calls Tryz.prog 122 #[.agg #[.int .i64 x.state,.int .i64 x.owner,.int .i64 x.value,.slice q.a n q.c],.agg #[.int .i64 x.state,.int .i64 x.owner,.int .i64 x.value,.slice r.a n r.c]] w λe w'=>e= .returned (.bool true)/\xW w w':=by
 have HL:=xH1 hl;have HQ:=xH1 h1;have HR:=xH1 h2;have F:=((Fr.start w).alloc #[.int .i64 x.state,.int .i64 x.owner,.int .i64 x.value,.slice q.a n q.c] 78).alloc #[.int .i64 x.state,.int .i64 x.owner,.int .i64 x.value,.slice r.a n r.c] 78;simp only[xDe] at F;have HB:=xH1 F.bel;have c1:=F.c4 0 rfl;have c2:=F.c4 1 rfl;clear hl h1 h2 F;go_enter Tryz.func122,Tryz.ntmps122;go_wp2_with fail;refine(zcd q.a r.a n q.c r.c x.waits _ (by omega) HL.out (HQ.out.below HB.out) (HR.out.below HB.out)).mono ?_;rintro e w1 ⟨rfl,hb⟩;replace HB:=xH1 (HB.out.trans (hb.mono HB.out.size));clear hb c1 c2;go_wp2;go_ret;exact⟨rfl,HB.out⟩
theorem zi0 (a1 a2:Option Addr) (n c1 c2:Nat) (v1 v2:StV) (L1 L2:StL) (s:StD) (w:World) (e1:v1.on=⟨a1,n,c1⟩) (e2:v2.on=⟨a2,n,c2⟩) (hn:n<=1048576) (hl:s.onces.length=n) (hm:∀k,(s.onces.getD k zq).waits.length<=1048576) (h1:StR w v1 L1 s) (h2:StR w v2 L2 s):
  Calls Tryz.prog 65 #[.slice a1 n c1,.slice a2 n c2] w λe w'=>e= .returned (.bool true)/\xW w w':=by
 obtain⟨p1,p2,p3,p4,p5,p6,p7,p8,p9⟩:=v1;obtain⟨u1,u2,u3,u4,u5,u6,u7,u8,u9⟩:=v2;dsimp only at e1 e2;subst e1 e2;have HN1:=xH1 hl.symm;have HS1:=xH1 h1;have HS2:=xH1 h2;have HM:=xH1 hm;clear hl h1 h2 hm;go_enter Tryz.func65,Tryz.ntmps65;go_wp2
 go_loopw [5] (λi wr=>∃k:Nat,k<=n/\i= .int .i64 k/\xW w wr) (λi _=>n-(intOf i).toNat)
 case atStart=>exact⟨0,by omega,rfl,Below.refl _ _⟩
 case round=>
  obtain⟨k,hk,rfl,hb⟩:=hrel;by_cases hlt:k<n
  ·obtain⟨x,q,b1,o1,HX,rfl,g0,g1,g2,g3,Q0,QL,-⟩:=(HS1.out.below hb).at_on (j:=k) (by rw[<-HN1.out];exact hlt);obtain⟨x',r,b2,o2,HX',rfl,e0,e1,e2,e3,R0,RL,-⟩:=(HS2.out.below hb).at_on (j:=k) (by rw[<-HN1.out];exact hlt);obtain rfl:x=x':=HX.out.trans HX'.out.symm;rw[show r.n=q.n from RL.out.trans QL.out.symm] at e3;go_wp2;go_still_tail 8,(by kernel_rfl)
   go_wp2_with fail;refine(zjr x q r q.n wr.drew (by rw[QL.out,HX.out];exact HM.out k) QL.out.symm Q0.out R0.out).mono ?_;rintro e w2 ⟨rfl,b2'⟩;go_wp2
   go_roundw
   case rel=>exact⟨k+1,by omega,by go_num,hb.drew.trans (b2'.mono hb.size)⟩
   case measure=>simp[intOf];omega
  ·have hkm:k=n:=(by omega);subst hkm;go_wp2;go_ret;exact⟨rfl,hb⟩
theorem ziH (x:GrpD) (q r:SlV) (n:Nat) (w:World) (hn:n<=1048576) (hl:x.waits.length=n) (h1:Rd w q.a (ints x.waits)) (h2:Rd w r.a (ints x.waits)):
  Calls Tryz.prog 123 #[.agg #[.int .i64 x.count,.slice q.a n q.c],.agg #[.int .i64 x.count,.slice r.a n r.c]] w λe w'=>e= .returned (.bool true)/\xW w w':=by
 have HL:=xH1 hl;have HQ:=xH1 h1;have HR:=xH1 h2;have F:=((Fr.start w).alloc #[.int .i64 x.count,.slice q.a n q.c] 80).alloc #[.int .i64 x.count,.slice r.a n r.c] 80;simp only[xDe] at F;have HB:=xH1 F.bel;have c1:=F.c2 0 rfl;have c2:=F.c2 1 rfl;clear hl h1 h2 F;go_enter Tryz.func123,Tryz.ntmps123;go_wp2_with fail;refine(zcd q.a r.a n q.c r.c x.waits _ (by omega) HL.out (HQ.out.below HB.out) (HR.out.below HB.out)).mono ?_;rintro e w1 ⟨rfl,hb⟩;replace HB:=xH1 (HB.out.trans (hb.mono HB.out.size));clear hb c1 c2;go_wp2;go_ret;exact⟨rfl,HB.out⟩
theorem zh1 (a1 a2:Option Addr) (n c1 c2:Nat) (v1 v2:StV) (L1 L2:StL) (s:StD) (w:World) (e1:v1.gr=⟨a1,n,c1⟩) (e2:v2.gr=⟨a2,n,c2⟩) (hn:n<=1048576) (hl:s.groups.length=n) (hm:∀k,(s.groups.getD k zQ).waits.length<=1048576) (h1:StR w v1 L1 s) (h2:StR w v2 L2 s):
  Calls Tryz.prog 66 #[.slice a1 n c1,.slice a2 n c2] w λe w'=>e= .returned (.bool true)/\xW w w':=by
 obtain⟨p1,p2,p3,p4,p5,p6,p7,p8,p9⟩:=v1;obtain⟨u1,u2,u3,u4,u5,u6,u7,u8,u9⟩:=v2;dsimp only at e1 e2;subst e1 e2;have HN1:=xH1 hl.symm;have HS1:=xH1 h1;have HS2:=xH1 h2;have HM:=xH1 hm;clear hl h1 h2 hm;go_enter Tryz.func66,Tryz.ntmps66;go_wp2
 go_loopw [5] (λi wr=>∃k:Nat,k<=n/\i= .int .i64 k/\xW w wr) (λi _=>n-(intOf i).toNat)
 case atStart=>exact⟨0,by omega,rfl,Below.refl _ _⟩
 case round=>
  obtain⟨k,hk,rfl,hb⟩:=hrel;by_cases hlt:k<n
  ·obtain⟨x,q,b1,o1,HX,rfl,g0,g1,Q0,QL,-⟩:=(HS1.out.below hb).at_gr (j:=k) (by rw[<-HN1.out];exact hlt);obtain⟨x',r,b2,o2,HX',rfl,e0,e1,R0,RL,-⟩:=(HS2.out.below hb).at_gr (j:=k) (by rw[<-HN1.out];exact hlt);obtain rfl:x=x':=HX.out.trans HX'.out.symm;rw[show r.n=q.n from RL.out.trans QL.out.symm] at e1;go_wp2;go_still_tail 8,(by kernel_rfl)
   go_wp2_with fail;refine(ziH x q r q.n wr.drew (by rw[QL.out,HX.out];exact HM.out k) QL.out.symm Q0.out R0.out).mono ?_;rintro e w2 ⟨rfl,b2'⟩;go_wp2
   go_roundw
   case rel=>exact⟨k+1,by omega,by go_num,hb.drew.trans (b2'.mono hb.size)⟩
   case measure=>simp[intOf];omega
  ·have hkm:k=n:=(by omega);subst hkm;go_wp2;go_ret;exact⟨rfl,hb⟩
theorem zhF (x:BarD) (q r:SlV) (n:Nat) (w:World) (hn:n<=1048576) (hl:x.waits.length=n) (h1:Rd w q.a (ints x.waits)) (h2:Rd w r.a (ints x.waits)):
  Calls Tryz.prog 124 #[.agg #[.int .i64 x.parties,.int .i64 x.round,.slice q.a n q.c],.agg #[.int .i64 x.parties,.int .i64 x.round,.slice r.a n r.c]] w λe w'=>e= .returned (.bool true)/\xW w w':=by
 have HL:=xH1 hl;have HQ:=xH1 h1;have HR:=xH1 h2;have F:=((Fr.start w).alloc #[.int .i64 x.parties,.int .i64 x.round,.slice q.a n q.c] 82).alloc #[.int .i64 x.parties,.int .i64 x.round,.slice r.a n r.c] 82;simp only[xDe] at F;have HB:=xH1 F.bel;have c1:=F.c3 0 rfl;have c2:=F.c3 1 rfl;clear hl h1 h2 F;go_enter Tryz.func124,Tryz.ntmps124;go_wp2_with fail;refine(zcd q.a r.a n q.c r.c x.waits _ (by omega) HL.out (HQ.out.below HB.out) (HR.out.below HB.out)).mono ?_;rintro e w1 ⟨rfl,hb⟩;replace HB:=xH1 (HB.out.trans (hb.mono HB.out.size));clear hb c1 c2;go_wp2;go_ret;exact⟨rfl,HB.out⟩
theorem zgZ (a1 a2:Option Addr) (n c1 c2:Nat) (v1 v2:StV) (L1 L2:StL) (s:StD) (w:World) (e1:v1.ba=⟨a1,n,c1⟩) (e2:v2.ba=⟨a2,n,c2⟩) (hn:n<=1048576) (hl:s.bars.length=n) (hm:∀k,(s.bars.getD k zE).waits.length<=1048576) (h1:StR w v1 L1 s) (h2:StR w v2 L2 s):
  Calls Tryz.prog 67 #[.slice a1 n c1,.slice a2 n c2] w λe w'=>e= .returned (.bool true)/\xW w w':=by
 obtain⟨p1,p2,p3,p4,p5,p6,p7,p8,p9⟩:=v1;obtain⟨u1,u2,u3,u4,u5,u6,u7,u8,u9⟩:=v2;dsimp only at e1 e2;subst e1 e2;have HN1:=xH1 hl.symm;have HS1:=xH1 h1;have HS2:=xH1 h2;have HM:=xH1 hm;clear hl h1 h2 hm;go_enter Tryz.func67,Tryz.ntmps67;go_wp2
 go_loopw [5] (λi wr=>∃k:Nat,k<=n/\i= .int .i64 k/\xW w wr) (λi _=>n-(intOf i).toNat)
 case atStart=>exact⟨0,by omega,rfl,Below.refl _ _⟩
 case round=>
  obtain⟨k,hk,rfl,hb⟩:=hrel;by_cases hlt:k<n
  ·obtain⟨x,q,b1,o1,HX,rfl,g0,g1,g2,Q0,QL,-⟩:=(HS1.out.below hb).at_ba (j:=k) (by rw[<-HN1.out];exact hlt);obtain⟨x',r,b2,o2,HX',rfl,e0,e1,e2,R0,RL,-⟩:=(HS2.out.below hb).at_ba (j:=k) (by rw[<-HN1.out];exact hlt);obtain rfl:x=x':=HX.out.trans HX'.out.symm;rw[show r.n=q.n from RL.out.trans QL.out.symm] at e2;go_wp2;go_still_tail 8,(by kernel_rfl)
   go_wp2_with fail;refine(zhF x q r q.n wr.drew (by rw[QL.out,HX.out];exact HM.out k) QL.out.symm Q0.out R0.out).mono ?_;rintro e w2 ⟨rfl,b2'⟩;go_wp2
   go_roundw
   case rel=>exact⟨k+1,by omega,by go_num,hb.drew.trans (b2'.mono hb.size)⟩
   case measure=>simp[intOf];omega
  ·have hkm:k=n:=(by omega);subst hkm;go_wp2;go_ret;exact⟨rfl,hb⟩
theorem zjg (x:ChnD) (q r:SlV×SlV×SlV) (i l g:Nat) (w:World) (hi:i<=1048576) (hl:l<=1048576) (hg:g<=1048576) (li:x.items.length=i) (ll:x.senders.length=l) (lg:x.getters.length=g) (h1:Rd w q.1.a (ints x.items)) (h2:Rd w r.1.a (ints x.items)) (h3:Rd w q.2.1.a (zt x.senders)) (h4:Rd w r.2.1.a (zt x.senders)) (h5:Rd w q.2.2.a (ints x.getters)) (h6:Rd w r.2.2.a (ints x.getters)):
  Calls Tryz.prog 125 #[.agg #[.int .i64 x.room,.slice q.1.a i q.1.c,.slice q.2.1.a l q.2.1.c,.slice q.2.2.a g q.2.2.c,.bool x.closed],.agg #[.int .i64 x.room,.slice r.1.a i r.1.c,.slice r.2.1.a l r.2.1.c,.slice r.2.2.a g r.2.2.c,.bool x.closed]] w λe w'=>e= .returned (.bool true)/\xW w w':=by
 have L1:=xH1 li;have L2:=xH1 ll;have L3:=xH1 lg;have H1:=xH1 h1;have H2:=xH1 h2;have H3:=xH1 h3;have H4:=xH1 h4;have H5:=xH1 h5;have H6:=xH1 h6;have F:=((Fr.start w).alloc #[.int .i64 x.room,.slice q.1.a i q.1.c,.slice q.2.1.a l q.2.1.c,.slice q.2.2.a g q.2.2.c,.bool x.closed] 87).alloc #[.int .i64 x.room,.slice r.1.a i r.1.c,.slice r.2.1.a l r.2.1.c,.slice r.2.2.a g r.2.2.c,.bool x.closed] 87;simp only[xDe] at F;have c1:=F.c5 0 rfl;have c2:=F.c5 1 rfl;have t1:(x.closed !=x.closed)=false:=by simp
 clear li ll lg h1 h2 h3 h4 h5 h6;go_enter Tryz.func125,Tryz.ntmps125;go_wp2_with fail;refine(zcd q.1.a r.1.a i q.1.c r.1.c x.items _ (by omega) L1.out (H1.out.below F.bel) (H2.out.below F.bel)).mono ?_;rintro e w1 ⟨rfl,hb⟩;replace F:=F.call hb;clear hb c1 c2;have c1:=F.c5 0 rfl;have c2:=F.c5 1 rfl;go_wp2_with fail;refine(zhE q.2.1.a r.2.1.a l q.2.1.c r.2.1.c x.senders _ (by omega) L2.out (H3.out.below F.bel) (H4.out.below F.bel)).mono ?_;rintro e w2 ⟨rfl,hb⟩;replace F:=F.call hb;clear hb c1 c2;have c1:=F.c5 0 rfl;have c2:=F.c5 1 rfl;go_wp2_with fail;refine(zcd q.2.2.a r.2.2.a g q.2.2.c r.2.2.c x.getters _ (by omega) L3.out (H5.out.below F.bel) (H6.out.below F.bel)).mono ?_;rintro e w3 ⟨rfl,hb⟩;replace F:=F.call hb;clear hb c1 c2;have c1:=F.c5 0 rfl;have c2:=F.c5 1 rfl;have HB:=xH1 F.bel;clear F;go_wp2;go_ret;exact⟨rfl,HB.out⟩
theorem ziM (a1 a2:Option Addr) (n c1 c2:Nat) (v1 v2:StV) (L1 L2:StL) (s:StD) (w:World) (e1:v1.ch=⟨a1,n,c1⟩) (e2:v2.ch=⟨a2,n,c2⟩) (hn:n<=1048576) (hl:s.chans.length=n) (hm:∀k,(s.chans.getD k zH).items.length<=1048576/\(s.chans.getD k zH).senders.length<=1048576/\(s.chans.getD k zH).getters.length<=1048576) (h1:StR w v1 L1 s) (h2:StR w v2 L2 s):
  Calls Tryz.prog 68 #[.slice a1 n c1,.slice a2 n c2] w λe w'=>e= .returned (.bool true)/\xW w w':=by
 obtain⟨p1,p2,p3,p4,p5,p6,p7,p8,p9⟩:=v1;obtain⟨u1,u2,u3,u4,u5,u6,u7,u8,u9⟩:=v2;dsimp only at e1 e2;subst e1 e2;have HN1:=xH1 hl.symm;have HS1:=xH1 h1;have HS2:=xH1 h2;have HM:=xH1 hm;clear hl h1 h2 hm;go_enter Tryz.func68,Tryz.ntmps68;go_wp2
 go_loopw [5] (λi wr=>∃k:Nat,k<=n/\i= .int .i64 k/\xW w wr) (λi _=>n-(intOf i).toNat)
 case atStart=>exact⟨0,by omega,rfl,Below.refl _ _⟩
 case round=>
  obtain⟨k,hk,rfl,hb⟩:=hrel;by_cases hlt:k<n
  ·obtain⟨x,q,b1,o1,HX,rfl,g0,g1,g2,g3,g4,Q0,QL0,-,Q1,QL1,-,Q2,QL2,-⟩:=(HS1.out.below hb).at_ch (j:=k) (by rw[<-HN1.out];exact hlt);obtain⟨x',r,b2,o2,HX',rfl,e0,e1,e2,e3,e4,R0,RL0,-,R1,RL1,-,R2,RL2,-⟩:=(HS2.out.below hb).at_ch (j:=k) (by rw[<-HN1.out];exact hlt);obtain rfl:x=x':=HX.out.trans HX'.out.symm;rw[show r.1.n=q.1.n from RL0.out.trans QL0.out.symm] at e1;rw[show r.2.1.n=q.2.1.n from RL1.out.trans QL1.out.symm] at e2;rw[show r.2.2.n=q.2.2.n from RL2.out.trans QL2.out.symm] at e3;go_wp2;go_still_tail 8,(by kernel_rfl)
   go_wp2_with fail;refine(zjg x q r q.1.n q.2.1.n q.2.2.n wr.drew (by rw[QL0.out,HX.out];exact(HM.out k).1) (by rw[QL1.out,HX.out];exact(HM.out k).2.1) (by rw[QL2.out,HX.out];exact(HM.out k).2.2) QL0.out.symm QL1.out.symm QL2.out.symm Q0.out R0.out Q1.out R1.out Q2.out R2.out).mono ?_;rintro e w2 ⟨rfl,b2'⟩;go_wp2
   go_roundw
   case rel=>exact⟨k+1,by omega,by go_num,hb.drew.trans (b2'.mono hb.size)⟩
   case measure=>simp[intOf];omega
  ·have hkm:k=n:=(by omega);subst hkm;go_wp2;go_ret;exact⟨rfl,hb⟩
structure SmE (s:StD):Prop where
 pl:s.places.length<=1048576
 st:s.status.length<=1048576
 sa:s.said.length<=1048576
 se:s.sems.length<=1048576
 on:s.onces.length<=1048576
 gr:s.groups.length<=1048576
 ba:s.bars.length<=1048576
 ch:s.chans.length<=1048576
 qse:∀i,(s.sems.getD i zG).queue.length<=1048576
 qon:∀i,(s.onces.getD i zq).waits.length<=1048576
 qgr:∀i,(s.groups.getD i zQ).waits.length<=1048576
 qba:∀i,(s.bars.getD i zE).waits.length<=1048576
 qch:∀i,(s.chans.getD i zH).items.length<=1048576/\(s.chans.getD i zH).senders.length<=1048576/\(s.chans.getD i zH).getters.length<=1048576
theorem SmS.e {s:StD} (h:SmS s):SmE s:=⟨h.pl.2,h.st.2,h.sa,h.se,h.on,h.gr,h.ba,h.ch,h.qse,h.qon,h.qgr,h.qba,h.qch⟩
theorem ziZ (v u:StV) (L M:StL) (s:StD) (w:World) (h1:StR w v L s) (h2:StR w u M s) (hz:SmE s):
  Calls Tryz.prog 35 #[v.val,u.val] w λe w'=>e= .returned (.bool true)/\xW w w':=by
 have HZ:=xH1 hz;have H1:=xH1 h1;have H2:=xH1 h2;have lpl:u.pl.n=v.pl.n:=h2.pl.len.trans h1.pl.len.symm;have mpl:v.pl.n<=1048576:=by rw[h1.pl.len];exact hz.pl
 have lst:u.st.n=v.st.n:=h2.st.len.trans h1.st.len.symm;have mst:v.st.n<=1048576:=by rw[h1.st.len];exact hz.st
 have lse:u.se.n=v.se.n:=h2.se.len.trans h1.se.len.symm;have mse:v.se.n<=1048576:=by rw[h1.se.len];exact hz.se
 have lon:u.on.n=v.on.n:=h2.on.len.trans h1.on.len.symm;have mon:v.on.n<=1048576:=by rw[h1.on.len];exact hz.on
 have lgr:u.gr.n=v.gr.n:=h2.gr.len.trans h1.gr.len.symm;have mgr:v.gr.n<=1048576:=by rw[h1.gr.len];exact hz.gr
 have lba:u.ba.n=v.ba.n:=h2.ba.len.trans h1.ba.len.symm;have mba:v.ba.n<=1048576:=by rw[h1.ba.len];exact hz.ba
 have lch:u.ch.n=v.ch.n:=h2.ch.len.trans h1.ch.len.symm;have mch:v.ch.n<=1048576:=by rw[h1.ch.len];exact hz.ch
 have lsa:u.sa.n=v.sa.n:=h2.sa.len.trans h1.sa.len.symm;have msa:v.sa.n<=1048576:=by rw[h1.sa.len];exact hz.sa
 have lf:u.fl=v.fl:=h2.fl.trans h1.fl.symm;have t1:(v.fl !=v.fl)=false:=by simp
 obtain⟨⟨apl,npl,cpl⟩,⟨ast,nst,cst⟩,⟨ase,nse,cse⟩,⟨aon,non,con⟩,⟨agr,ngr,cgr⟩,⟨aba,nba,cba⟩,⟨ach,nch,cch⟩,⟨asa,nsa,csa⟩,f2⟩:=u;dsimp only at lpl lst lse lon lgr lba lch lsa lf;subst lpl lst lse lon lgr lba lch lsa lf;have F:=((Fr.start w).alloc (svC v) 33).alloc #[.slice apl v.pl.n cpl,.slice ast v.st.n cst,.slice ase v.se.n cse,.slice aon v.on.n con,.slice agr v.gr.n cgr,.slice aba v.ba.n cba,.slice ach v.ch.n cch,.slice asa v.sa.n csa,.int .i64 v.fl] 33;simp only[xDe] at F;have c1:=F.c9 0 rfl;have c2:=F.c9 1 rfl;clear hz h1 h2;go_enter Tryz.func35,Tryz.ntmps35;go_wp2_with fail;refine(zcd v.pl.a apl v.pl.n v.pl.c cpl s.places _ (by omega) H1.out.pl.len.symm (H1.out.pl.rd.below F.bel) (H2.out.pl.rd.below F.bel)).mono ?_;rintro e w1 ⟨rfl,hb⟩;replace F:=F.call hb;clear hb c1 c2;have c1:=F.c9 0 rfl;have c2:=F.c9 1 rfl;go_wp2_with fail;refine(zcd v.st.a ast v.st.n v.st.c cst s.status _ (by omega) H1.out.st.len.symm (H1.out.st.rd.below F.bel) (H2.out.st.rd.below F.bel)).mono ?_;rintro e w2 ⟨rfl,hb⟩;replace F:=F.call hb;clear hb c1 c2;have c1:=F.c9 0 rfl;have c2:=F.c9 1 rfl;go_wp2_with fail
 refine(zjj v.se.a ase v.se.n v.se.c cse v _ L M s _ rfl rfl (by omega) H1.out.se.len.symm HZ.out.qse (H1.out.below F.bel) (H2.out.below F.bel)).mono ?_;rintro e w3 ⟨rfl,hb⟩;replace F:=F.call hb;clear hb c1 c2;have c1:=F.c9 0 rfl;have c2:=F.c9 1 rfl;go_wp2_with fail;refine(zi0 v.on.a aon v.on.n v.on.c con v _ L M s _ rfl rfl (by omega) H1.out.on.len.symm HZ.out.qon (H1.out.below F.bel) (H2.out.below F.bel)).mono ?_;rintro e w4 ⟨rfl,hb⟩;replace F:=F.call hb;clear hb c1 c2;have c1:=F.c9 0 rfl;have c2:=F.c9 1 rfl;go_wp2_with fail;refine(zh1 v.gr.a agr v.gr.n v.gr.c cgr v _ L M s _ rfl rfl (by omega) H1.out.gr.len.symm HZ.out.qgr (H1.out.below F.bel) (H2.out.below F.bel)).mono ?_;rintro e w5 ⟨rfl,hb⟩;replace F:=F.call hb;clear hb c1 c2;have c1:=F.c9 0 rfl;have c2:=F.c9 1 rfl;go_wp2_with fail;refine(zgZ v.ba.a aba v.ba.n v.ba.c cba v _ L M s _ rfl rfl (by omega) H1.out.ba.len.symm HZ.out.qba (H1.out.below F.bel) (H2.out.below F.bel)).mono ?_;rintro e w6 ⟨rfl,hb⟩;replace F:=F.call hb;clear hb c1 c2;have c1:=F.c9 0 rfl;have c2:=F.c9 1 rfl;go_wp2_with fail
 refine(ziM v.ch.a ach v.ch.n v.ch.c cch v _ L M s _ rfl rfl (by omega) H1.out.ch.len.symm HZ.out.qch (H1.out.below F.bel) (H2.out.below F.bel)).mono ?_;rintro e w7 ⟨rfl,hb⟩;replace F:=F.call hb;clear hb c1 c2;have c1:=F.c9 0 rfl;have c2:=F.c9 1 rfl;go_wp2_with fail;refine(zcd v.sa.a asa v.sa.n v.sa.c csa s.said _ (by omega) H1.out.sa.len.symm (H1.out.sa.rd.below F.bel) (H2.out.sa.rd.below F.bel)).mono ?_;rintro e w8 ⟨rfl,hb⟩;replace F:=F.call hb;clear hb c1 c2;have c1:=F.c9 0 rfl;have c2:=F.c9 1 rfl;have HB:=xH1 F.bel;clear F;go_wp2;go_ret;exact⟨rfl,HB.out⟩
theorem zfn (v u:StV) (L M:StL) (s:StD) (a b:Option Addr) (n c d:Nat) (tr:List Int) (w:World) (h1:StR w v L s) (h2:StR w u M s) (hz:SmE s) (hl:tr.length=n) (hn:n<=1048576) (r1:Rd w a (ints tr)) (r2:Rd w b (ints tr)):
  Calls Tryz.prog 12 #[.agg (rC v a n c),.agg (rC u b n d)] w λe w'=>e= .returned (.bool true)/\xW w w':=by
 have HZ:=xH1 hz;have H1:=xH1 h1;have H2:=xH1 h2;have HL:=xH1 hl;have R1:=xH1 r1;have R2:=xH1 r2;have F:=((Fr.start w).alloc (rC v a n c) 35).alloc (rC u b n d) 35;simp only[xDe] at F;have c1:=F.c10 0 rfl;have c2:=F.c10 1 rfl;clear hz h1 h2 hl r1 r2;go_enter Tryz.func12,Tryz.ntmps12;go_wp2_with fail;refine(ziZ v u L M s _ (H1.out.below F.bel) (H2.out.below F.bel) HZ.out).mono ?_;rintro e w1 ⟨rfl,hb⟩;replace F:=F.call hb;clear hb c1 c2;have c1:=F.c10 0 rfl;have c2:=F.c10 1 rfl;go_wp2_with fail;refine(zcd a b n c d tr _ (by omega) HL.out (R1.out.below F.bel) (R2.out.below F.bel)).mono ?_;rintro e w2 ⟨rfl,hb⟩;have HB:=xH1 (F.call hb).bel;clear F hb c1 c2;go_wp2;go_ret;exact⟨rfl,HB.out⟩
end Go.Proofs.YtnlijgjpgdjpiaaGreat
