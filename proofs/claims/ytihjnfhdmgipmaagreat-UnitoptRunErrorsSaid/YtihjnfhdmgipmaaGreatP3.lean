/- A part of the proof; each theorem says what it holds. -/
import Derived.Laws.BitsLemmas
import Derived.Test.YtihjnfhdmgipmaaGreatP2
set_option linter.unusedVariables false
set_option linter.defProp false
set_option linter.unusedSimpArgs false
open Nat (ble beq)
open List (take drop replicate)
open Go.IntKind (wrap)
namespace Gx
open Go Go.Proofs
section
variable{R:Type}
def UK:∀{S:List Nat}{d v:Nat}(h:d<S.length),val (S.set d v)+4294967296 ^ d*S[d]=val S+4294967296 ^ d*v
|x::r,0,v,_=>by simp[val];omega
|x::r,d+1,v,h=>by
  have k:=UK (S:=r) (d:=d) (v:=v) (by simpa using h)
  simp only[List.set_cons_succ,val,Acu,zR]
  have e1:∀ y,4294967296 ^ d*4294967296*y=4294967296*(4294967296 ^ d*y):=fun y=>by rw[zH (4294967296 ^ d),zL]
  rw[e1,e1]
  omega
def Lg(b:List Nat)(d:Nat):val (b.take (d+1))=val (b.take d)+4294967296 ^ d*b.getD d 0:=by
 by_cases h:d<b.length
 ·rw[Au h,zO,zD h];rfl
 ·rw[zF (by omega),zF (by omega),zO,zp (by omega)];simp
def Lh(P s:Nat):P*(s%4294967296)+P*4294967296*(s/4294967296)=P*s:=by rw[zL,<-zN,Acc,zx]
def pL(S:List Nat)(d:Nat):Prop:=∀ j (h:j<S.length),d<=j->S[j]=0
def Ux{S:List Nat}{d v:Nat}(h:pL S d):pL (S.set d v) (d+1):=fun j k C=>by
 rw[Ac1]
 rw[if_neg (by omega)]
 exact h j (by simpa using k) (by omega)
def Ii(n:Nat):pL (replicate n 0) 0:=fun j k _=>by simp
def Qt{S:List Nat}{d v:Nat}(h:pL S d)(k:d<S.length):val (S.set d v)=val S+4294967296 ^ d*v:=by
 have:=UK (v:=v) k
 rw[h d k (zE _)]at this;simpa using this
def yO{a:Nat}(h:a<=1000000000000):wrap .i64 ((a:Int)+(1:Int))=((a+1:Nat):Int):=wS h
def vg{x:Nat}{m:List Nat}(h:x<m.length):((beq 1 1)&&((ble ((0+(x*1))+1) (List.length (Ad m)))&&(!false)))=true:=by rw[Bk];simp;omega
def tJ{x v:Nat}{m:List Nat}:List.set (Ad m) (0+(x*1)) (.int .u32 (v:Int))=Ad (m.set x v):=by rw[zY,zU,KC]
def YS{N:Nat}{a b:List Nat}{t u:Bool}(ha:Ag a)(hb:Ag b)(G:fit (a.length+1) N)(I:b.length<=a.length):∀(m d k:Nat)(S:List Nat)(c:Nat),d+m=a.length->m<k->Ag S->S.length=a.length+1->pL S d->c<=1 ->
  val S+4294967296 ^ d*c=val (a.take d)+val (b.take d) ->
  ∃ S',Ag S'/\S'.length=a.length+1/\val S'=val a+val b/\∀ K:Nat->LA->O R,Nn N K (Ad a) a.length t (Ad b) b.length u k (a.length+1) (c:Int) (a.length:Int) (d:Int) (Ad S)=K (Al (val a+val b)).length (Ad S')
| 0,d,k+1,S,c,hd,_,hS,L,T,hc,hv=>by
  have h1:=G.1;have h2:=G.2
  have hd':d=a.length:=by omega
  subst hd'
  have Y:val (S.set a.length c)=val a+val b:=by
   rw[Qt T (by omega),hv,zd,zF I]
  have hl2:=Cc hS (show c<4294967296 by omega) a.length
  refine⟨S.set a.length c,hl2,by simpa using L,Y,fun K=>?_⟩
  rw[Nn];unfold Se
  rw[Wc (zE _),cf,Aa (by omega),ct,vg (by omega),ct,oA (by omega),tJ,Wd (by simp;omega) hl2 (by simp only[List.length_set,L];exact G),Y]
| m+1,d,k+1,S,c,hd,hfu,hS,L,T,hc,hv=>by
  have h1:=G.1;have h2:=G.2
  have C:d<a.length:=by omega
  have ad:=A0 ha C
  have step:∀ s:Nat,s<8589934592->s=c+a[d]+b.getD d 0->val (S.set d (s%4294967296))+4294967296 ^ (d+1)*(s/4294967296)=val (a.take (d+1))+val (b.take (d+1)):=by
   intro s _ hs
   rw[Qt T (by omega),Au C,Lg b d,zR]
   have e:=Lh (4294967296 ^ d) s
   have e2:4294967296 ^ d*s=4294967296 ^ d*c+4294967296 ^ d*a[d]+4294967296 ^ d*b.getD d 0:=by rw[hs,zN,zN]
   omega
  by_cases D:d<b.length
  ·have bd:=A0 hb D
   have hg:b.getD d 0=b[d]:=by rw[zO,zD D];rfl
   obtain⟨S',q1,q2,q3,q4⟩:=YS (t:=t) (u:=u) ha hb G I m (d+1) k (S.set d ((c+a[d]+b[d])%4294967296)) ((c+a[d]+b[d])/4294967296) (by omega) (by omega) (Cc hS (by omega) d) (by simpa using L) (Ux T) (by omega) (step _ (by omega) (by rw[hg]))
   refine⟨S',q1,q2,q3,fun K=>?_⟩
   rw[Nn];unfold Se
   rw[T6 C,ct,Aa C,ct,CB C,T6 D,ct,Aa D,ct,CB D,Aa (by omega),ct,hI (by omega),ct,G3 (by omega),G3 (by omega),AL,G3 (by omega),AL,G3 (by omega),ST,KD,IB,wS (by omega)]
   exact q4 K
  ·have hg:b.getD d 0=0:=by rw[zO,zp (by omega)];rfl
   obtain⟨S',q1,q2,q3,q4⟩:=YS (t:=t) (u:=u) ha hb G I m (d+1) k (S.set d ((c+a[d])%4294967296)) ((c+a[d])/4294967296) (by omega) (by omega) (Cc hS (by omega) d) (by simpa using L) (Ux T) (by omega) (step _ (by omega) (by rw[hg];rfl))
   refine⟨S',q1,q2,q3,fun K=>?_⟩
   rw[Nn];unfold Se
   rw[T6 C,ct,Aa C,ct,CB C,Wc (by omega),cf,Aa (by omega),ct,hI (by omega),ct,G3 (by omega),AL,G3 (by omega),ST,KD,IB,wS (by omega)]
   exact q4 K
def PQ{N:Nat}{a b:List Nat}{t u:Bool}(D:Ag a)(G:Ag b)(k:fit (a.length+1) N)(C:b.length<=a.length):
  ∃ S',Ag S'/\val S'=val a+val b/\∀ K:Nat->LA->O R,Wh N K (Ad a) a.length t (Ad b) b.length u=K (Al (val a+val b)).length (Ad S'):=by
 have Y:=k.1;have h2:=k.2
 obtain⟨S',I,_,L,T⟩:=YS (R:=R) (t:=t) (u:=u) D G k C a.length 0 N (replicate (a.length+1) 0) 0 (by omega) (by omega) (Cb _) (by simp) (Ii _) (by omega) (by rw[D3];simp[val])
 refine⟨S',I,L,fun K=>?_⟩
 unfold Wh II
 rw[yO (by omega),qL (by omega),ct,zG,Cy]
 exact T K
def qk{N:Nat}{a b:List Nat}{n m:Nat}{t o t' o':Bool}(T:n=a.length)(Y:m=b.length)(D:Ag a)(G:Ag b)(k:fit (a.length+b.length+1) N):
  ∃ S',Ag S'/\val S'=val a+val b/\∀ K:Nat->LA->O R,WW N (Ad a) n t o (Ad b) m t' o' K=K (Al (val a+val b)).length (Ad S'):=by
 subst T Y
 have la:=(A7 D).2
 have lb:=(A7 G).2
 by_cases hl:(Al (val a)).length<(Al (val b)).length
 ·obtain⟨S',I,C,L⟩:=PQ (R:=R) (N:=N) (a:=Al (val b)) (b:=Al (val a)) (t:=o') (u:=o) (Ac _) (Ac _) (k.le (by omega)) (by omega)
  rw[Af,Af,Acc]at C
  refine⟨S',I,C,fun K=>?_⟩
  rw[IJ];unfold KU
  rw[Bi rfl D (k.le (by omega)),Bi rfl G (k.le (by omega)),T6 hl,ct,L,Af,Af,Acc (val b)]
 ·obtain⟨S',I,C,L⟩:=PQ (R:=R) (N:=N) (a:=Al (val a)) (b:=Al (val b)) (t:=o) (u:=o') (Ac _) (Ac _) (k.le (by omega)) (by omega)
  rw[Af,Af]at C
  refine⟨S',I,C,fun K=>?_⟩
  rw[IJ];unfold KU
  rw[Bi rfl D (k.le (by omega)),Bi rfl G (k.le (by omega)),Wc (by omega),cf,L,Af,Af]
def EP{x y:Nat}(k:x<4294967296)(C:y<=4294967296):∃ d c:Nat,d<4294967296/\c<=1/\x+4294967296*c=d+y/\wrap .u32 (wrap .u64 ((x:Int) - (y:Int)))=(d:Int)/\Int.fdiv (wrap .u64 ((x:Int) - (y:Int))) (2 ^ 63)=(c:Int):=by
 by_cases h:y<=x
 ·refine⟨x - y,0,by omega,by omega,by omega,?_,?_⟩
  ·rw[OA (by omega) h,oA (by omega)]
  ·rw[OA (by omega) h,vd,zw (by omega)]
 ·refine⟨x+4294967296 - y,1,by omega,by omega,by omega,?_,?_⟩
  ·rw[qK (by omega) (by omega),KD];congr 1;omega
  ·rw[qK (by omega) (by omega),vd];congr 1;omega
def sV{x c w:Nat}(k:x<4294967296)(hc:c<=1)(C:w<4294967296):wrap .u64 ((wrap .u64 ((x:Int) - (c:Int))) - (w:Int))=wrap .u64 ((x:Int) - ((c+w:Nat):Int)):=by rw[HP,HP,HP];omega
def YT{N:Nat}{a b:List Nat}{t u:Bool}(ha:Ag a)(hb:Ag b)(L:fit a.length N)(G:b.length<=a.length)(T:val b<=val a):∀(m d k:Nat)(S:List Nat)(c:Nat),d+m=a.length->m<k->Ag S->S.length=a.length->pL S d->c<=1 ->
  val S+val (b.take d)=val (a.take d)+4294967296 ^ d*c ->
  ∃ S',Ag S'/\val S'=val a - val b/\∀ K:Nat->Bool->LA->O R,K6 N K (Ad b) b.length t a.length (Ad a) u k (c:Int) (a.length:Int) (d:Int) (Ad S)=K (Al (val a - val b)).length true (Ad S')
| 0,d,k+1,S,c,hd,_,hS,I,hz,hc,hv=>by
  have hd':d=a.length:=by omega
  subst hd'
  rw[zd,zF G]at hv
  have hlt:=Be hS
  rw[I]at hlt
  have hc0:c=0:=by
   rcases Ado 0 c with h|h
   ·exfalso
    have:c=1:=by omega
    subst this
    omega
   ·omega
  subst hc0
  have Y:val S=val a - val b:=by omega
  refine⟨S,hS,Y,fun K=>?_⟩
  rw[K6];unfold Sc
  rw[Wc (zE _),cf,Wd I.symm hS (by rw[I];exact L),Y]
| m+1,d,k+1,S,c,hd,hfu,hS,I,hz,hc,hv=>by
  have h1:=L.1;have h2:=L.2
  have C:d<a.length:=by omega
  have ad:=A0 ha C
  have step:∀ y g c':Nat,y=c+b.getD d 0->a[d]+4294967296*c'=g+y->val (S.set d g)+val (b.take (d+1))=val (a.take (d+1))+4294967296 ^ (d+1)*c':=by
   intro y g c' hy hg
   rw[Qt hz (by omega),Au C,Lg b d,zR,zL]
   have e:4294967296 ^ d*(a[d]+4294967296*c')=4294967296 ^ d*(g+(c+b.getD d 0)):=by rw[hg,hy]
   rw[zN,zN,zN]at e
   omega
  by_cases D:d<b.length
  ·have bd:=A0 hb D
   have hg:b.getD d 0=b[d]:=by rw[zO,zD D];rfl
   obtain⟨g,c',g1,g2,g3,g4,g5⟩:=EP ad (show c+b[d]<=4294967296 by omega)
   obtain⟨S',q1,q3,q4⟩:=YT (t:=t) (u:=u) ha hb L G T m (d+1) k (S.set d g) c' (by omega) (by omega) (Cc hS g1 d) (by simpa using I) (Ux hz) g2 (step _ _ _ (by rw[hg]) g3)
   refine⟨S',q1,q3,fun K=>?_⟩
   rw[K6];unfold Sc
   rw[T6 C,ct,Aa C,ct,CB C,T6 D,ct,Aa D,ct,CB D,ct,hI (by omega),ct,G3 (show a[d]<18446744073709551616 by omega),G3 (show b[d]<18446744073709551616 by omega),sV ad hc bd,g4,g5,IB,wS (by omega)]
   exact q4 K
  ·have hg:b.getD d 0=0:=by rw[zO,zp (by omega)];rfl
   obtain⟨g,c',g1,g2,g3,g4,g5⟩:=EP ad (show c<=4294967296 by omega)
   obtain⟨S',q1,q3,q4⟩:=YT (t:=t) (u:=u) ha hb L G T m (d+1) k (S.set d g) c' (by omega) (by omega) (Cc hS g1 d) (by simpa using I) (Ux hz) g2 (step _ _ _ (by rw[hg];rfl) g3)
   refine⟨S',q1,q3,fun K=>?_⟩
   rw[K6];unfold Sc
   rw[T6 C,ct,Aa C,ct,CB C,Wc (by omega),cf,ct,hI (by omega),ct,G3 (show a[d]<18446744073709551616 by omega),g4,g5,IB,wS (by omega)]
   exact q4 K
def YU{N:Nat}{a b:List Nat}{n m:Nat}{t o t' o':Bool}(T:n=a.length)(Y:m=b.length)(G:Ag a)(I:Ag b)(k:fit (a.length+b.length) N)(C:val b<=val a):
  ∃ S',Ag S'/\val S'=val a - val b/\∀ K:Nat->Bool->LA->O R,CD N (Ad a) n t o (Ad b) m t' o' K=K (Al (val a - val b)).length true (Ad S'):=by
 subst T Y
 have h1:=k.1;have h2:=k.2
 have la:=(A7 G).2
 have lb:=(A7 I).2
 have D:=Bf C
 obtain⟨S',q1,L,q3⟩:=YT (R:=R) (N:=N) (a:=Al (val a)) (b:=Al (val b)) (t:=o') (u:=o) (Ac _) (Ac _) (k.le (by omega)) D (by rw[Af,Af];exact C) (Al (val a)).length 0 N (replicate (Al (val a)).length 0) 0 (by omega) (by omega) (Cb _) (by simp) (Ii _) (by omega) (by rw[D3];simp[val])
 rw[Af,Af]at L
 refine⟨S',q1,L,fun K=>?_⟩
 rw[IE];unfold KS
 dsimp only
 rw[Bi rfl G (k.le (by omega)),Bi rfl I (k.le (by omega)),Lf rfl rfl (Ac _) (Ac _) (k.le (by omega)),Af,Af]
 have:decide (Fq (val a) (val b)<0)=false:=by unfold Fq;split<;>(try split)<;>simp<;>omega
 rw[this,cf,qL (by omega),ct,Cy]
 have:=q3 K
 rw[Af,Af]at this
 exact this
def ql{N:Nat}{a b:List Nat}{n m:Nat}{t o t' o':Bool}{K:Nat->Bool->LA->O R}(I:n=a.length)(L:m=b.length)(D:Ag a)(G:Ag b)(k:fit (a.length+b.length) N)(C:val a<val b):
  CD N (Ad a) n t o (Ad b) m t' o' K=K 0 false []:=by
 subst I L
 have la:=(A7 D).2
 have lb:=(A7 G).2
 rw[IE];unfold KS
 dsimp only
 rw[Bi rfl D (k.le (by omega)),Bi rfl G (k.le (by omega)),Lf rfl rfl (Ac _) (Ac _) (k.le (by omega)),Af,Af]
 have:decide (Fq (val a) (val b)<0)=true:=by unfold Fq;rw[if_pos C];rfl
 rw[this,ct]
def a_{n:Nat}(h:n≠0):((n:Int)==(0:Int))=false:=by rw[beq_eq_false_iff_ne];omega
def yP{n:Nat}(h:n=0):((n:Int)==(0:Int))=true:=by subst h;rfl
def lp:∀{S:List Nat}{j:Nat}(h:j<S.length),4294967296 ^ j*S[j]<=val S
|x::r,0,_=>by simp[val]
|x::r,j+1,h=>by
  have:=lp (S:=r) (j:=j) (by simpa using h)
  simp only[Acu,val,zR]
  rw[zH (4294967296 ^ j),zL]
  omega
def uQ{S:List Nat}{k:Nat}(h:val S<4294967296 ^ k):pL S k:=fun j D G=>by
 have I:=lp D
 have L:4294967296 ^ k<=4294967296 ^ j:=zh (by omega) G
 rcases z6 S[j]with C|C
 ·exact C
 ·have:=Acq (4294967296 ^ j) C
  omega
def qp{p q y s:Nat}(k:p<4294967296)(hq:q<4294967296)(C:y<4294967296)(hs:s<4294967296):p+(q*y+s)<18446744073709551616:=by
 have:q*y<=4294967295*4294967295:=Aa4 (by omega) (by omega)
 omega
def qq{N:Nat}{x y:List Nat}{c d:Bool}{f q J:Nat}(hy:Ag y)(hq:q<4294967296)(hf:f<x.length)(hs:x.length+y.length<=1000000000000):∀(m l k:Nat)(S:List Nat)(p:Nat)(v:Nat),l+m=y.length->m<k->Ag S->S.length=x.length+y.length->pL S (f+y.length)->p<4294967296 ->
  val S+4294967296 ^ (f+l)*p=v+4294967296 ^ f*(q*val (y.take l)) ->
  ∃ S',Ag S'/\S'.length=x.length+y.length/\val S'=v+4294967296 ^ f*(q*val y)/\∀(G:Nat->Int->Int->LA->O R)(K:Nat->LA->O R),Nh N G K (Ad y) y.length d (x.length+y.length) (f:Int) (q:Int) (Ad x) x.length c (J:Int) k (p:Int) (y.length:Int) (l:Int) (Ad S)=G (x.length+y.length) J ((f+1:Nat):Int) (Ad S')
|0,l,k+1,S,p,v,hl,_,hS,C,T,L,Y=>by
  have hl':l=y.length:=by omega
  subst hl'
  rw[zd]at Y
  refine⟨S.set (f+y.length) p,Cc hS L _,by simpa using C,by rw[Qt T (by omega),Y],fun G K=>?_⟩
  rw[Nh];unfold X1
  rw[Wc (zE _),cf,wA (by omega),Aa (by omega),ct,hI (by omega),ct,oA L,IB,wS (by omega)]
| m+1,l,k+1,S,p,v,hl,hfu,hS,C,T,L,Y=>by
  have D:l<y.length:=by omega
  have yl:=A0 hy D
  have hi:f+l<S.length:=by omega
  have sl:=A0 hS hi
  have hw:=qp L hq yl sl
  have hqy:q*y[l]<18446744073709551616:=by omega
  generalize I:p+(q*y[l]+S[f+l])=s at *
  have hset:=UK (v:=s%4294967296) hi
  have key:val (S.set (f+l) (s%4294967296))+4294967296 ^ (f+(l+1))*(s/4294967296)=v+4294967296 ^ f*(q*val (y.take (l+1))):=by
   rw[Au D,<-Aaf f l 1,zR]
   have e:=Lh (4294967296 ^ (f+l)) s
   have e2:4294967296 ^ (f+l)*s=4294967296 ^ (f+l)*p+(4294967296 ^ (f+l)*(q*y[l])+4294967296 ^ (f+l)*S[f+l]):=by rw[<-I,zN,zN]
   have e3:4294967296 ^ f*(q*(val (y.take l)+4294967296 ^ l*y[l]))=4294967296 ^ f*(q*val (y.take l))+4294967296 ^ (f+l)*(q*y[l]):=by
    rw[zN,zN,Aab]
    congr 1
    rw[zL];congr 1
    rw[<-zL,<-zL,zH q]
   omega
  obtain⟨S',q1,q2,q3,q4⟩:=qq (N:=N) (x:=x) (c:=c) (d:=d) (J:=J) hy hq hf hs m (l+1) k (S.set (f+l) (s%4294967296)) (s/4294967296) v (by omega) (by omega) (Cc hS (by omega) _) (by simpa using C) (fun j hj hk=>by
   rw[Ac1,if_neg (by omega)];exact T j (by simpa using hj) hk) (by omega) key
  refine⟨S',q1,q2,q3,fun G K=>?_⟩
  rw[Nh];unfold X1
  rw[T6 D,ct,Aa D,ct,CB D,wA (by omega),Aa (by omega),ct,OO hi,ct,hI hi,ct,G3 (show q<18446744073709551616 by omega),G3 (show y[l]<18446744073709551616 by omega),G3 (show S[f+l]<18446744073709551616 by omega),ZY,G3 hqy,AL,G3 (by omega),AL,I,G3 hw,ST,KD,IB,wS (by omega)]
  exact q4 G K
def gh{N:Nat}{x y:List Nat}{c d:Bool}(Y:Ag x)(hy:Ag y)(D:fit (x.length+y.length) N):∀(m f k:Nat)(S:List Nat),f+m=x.length->m<k->Ag S->S.length=x.length+y.length ->
  val S=val (x.take f)*val y ->
  ∃ S',Ag S'/\val S'=val x*val y/\∀ K:Nat->LA->O R,Jr N K (Ad y) y.length d (Ad x) x.length c k (x.length+y.length) (x.length:Int) (f:Int) (Ad S)=K (Al (val x*val y)).length (Ad S')
|0,f,k+1,S,hf,_,hS,G,T=>by
  have hf':f=x.length:=by omega
  subst hf'
  rw[zd]at T
  refine⟨S,hS,T,fun K=>?_⟩
  rw[Jr];unfold R6
  rw[Wc (zE _),cf,Wd G.symm hS (by rw[G];exact D),T]
| m+1,f,k+1,S,hf,hfu,hS,G,T=>by
  have h1:=D.1;have h2:=D.2
  have C:f<x.length:=by omega
  have xf:=A0 Y C
  have b1:=Be (B7 Y f)
  rw[zT,zZ (by omega)]at b1
  have b2:=Be hy
  have L:val S<4294967296 ^ (f+y.length):=by
   rw[T,Aab];exact Aac b1 b2
  have I:val (x.take (f+1))*val y=val S+4294967296 ^ f*(x[f]*val y):=by
   rw[Au C,zS,T,zL]
  by_cases h0:x[f]=0
  ·obtain⟨S',q1,q2,q3⟩:=gh (c:=c) (d:=d) Y hy D m (f+1) k S (by omega) (by omega) hS G (by rw[I,h0];simp)
   refine⟨S',q1,q2,fun K=>?_⟩
   rw[Jr];unfold R6
   rw[T6 C,ct,Aa C,ct,CB C,show(((x[f]:Nat):Int)==0)=true by simp[h0],ct,wS (by omega)]
   exact q3 K
  ·obtain⟨S1,p1,p2,p3,p4⟩:=qq (R:=R) (N:=N) (x:=x) (y:=y) (c:=c) (d:=d) (f:=f) (q:=x[f]) (J:=x.length) hy xf C (by omega) y.length 0 N S 0 (val S) (by omega) (by omega) hS G (uQ L) (by omega) (by simp[val])
   obtain⟨S',q1,q2,q3⟩:=gh (c:=c) (d:=d) Y hy D m (f+1) k S1 (by omega) (by omega) p1 p2 (by rw[p3,I])
   refine⟨S',q1,q2,fun K=>?_⟩
   rw[Jr];unfold R6
   rw[T6 C,ct,Aa C,ct,CB C,show(((x[f]:Nat):Int)==0)=false by simp;exact h0,cf]
   have:=p4 (Jr N K (Ad y) y.length d (Ad x) x.length c k) K
   simp only[Int.natCast_zero]at this
   dsimp only
   rw[this]
   exact q3 K
def DC{N:Nat}{a b:List Nat}{n m:Nat}{t o t' o':Bool}(T:n=a.length)(Y:m=b.length)(G:Ag a)(I:Ag b)(k:fit (a.length+b.length) N):
  ∃ S',Ag S'/\val S'=val a*val b/\∀ K:Nat->LA->O R,X2 N (Ad a) n t o (Ad b) m t' o' K=K (Al (val a*val b)).length (Ad S'):=by
 subst T Y
 have h1:=k.1;have h2:=k.2
 have la:=(A7 G).2
 have lb:=(A7 I).2
 by_cases C:val a=0
 ·refine⟨[],Nc,by rw[C];simp[val],fun K=>?_⟩
  rw[X3];unfold ED
  dsimp only
  rw[Bi rfl G (k.le (by omega)),Bi rfl I (k.le (by omega)),C,Adq,C6];rfl
 ·by_cases D:val b=0
  ·refine⟨[],Nc,by rw[D];simp[val],fun K=>?_⟩
   rw[X3];unfold ED
   dsimp only
   rw[Bi rfl G (k.le (by omega)),Bi rfl I (k.le (by omega)),D,Nat.mul_zero,C6]
   cases ((((Al (val a)).length:Nat):Int)==0)<;>rfl
  ·obtain⟨S',q1,L,q3⟩:=gh (R:=R) (N:=N) (x:=Al (val a)) (y:=Al (val b)) (c:=o) (d:=o') (Ac _) (Ac _) (k.le (by omega)) (Al (val a)).length 0 N (replicate ((Al (val a)).length+(Al (val b)).length) 0) (by omega) (by omega) (Cb _) (by simp) (by rw[D3];simp[val])
   rw[Af,Af]at L
   refine⟨S',q1,L,fun K=>?_⟩
   rw[X3];unfold ED
   dsimp only
   have n1:(Al (val a)).length≠0:=fun h=>C (Bb.1 h)
   have n2:(Al (val b)).length≠0:=fun h=>D (Bb.1 h)
   rw[Bi rfl G (k.le (by omega)),Bi rfl I (k.le (by omega)),a_ n1,show((false:Bool)==false)=true by rfl,ct,xT,a_ n2,cf]
   unfold EC HT
   rw[wA (by omega),qL (by omega),ct,zG,Cy]
   have:=q3 K
   rw[Af,Af]at this
   exact this
def MR{v:Nat}(h:(Al v).length<=2):v<18446744073709551616:=by
 have:=Be (Ac v)
 rw[Af]at this
 have k:4294967296 ^ (Al v).length<=4294967296 ^ 2:=zh (by omega) h
 omega
def Y8{v:Nat}(h:v<18446744073709551616):(Al v).length<=2:=Iy (by simpa using h)
def W6{N:Nat}{l:List Nat}{n:Nat}{t o:Bool}{K:Int->O R}(C:n=l.length)(k:Ag l)(D:l.length<=2)(hN:4<=N):Lq N (Ad l) n t o K=K (val l:Int):=by
 subst C
 obtain⟨M,rfl⟩:∃ M,N=M+4:=⟨N - 4,by omega⟩
 rw[RG];unfold KH
 match l,k,D with
|[],_,_ =>
  rw[Gb];unfold G5
  simp[val]
|[x],k,_ =>
  have G:=(Cj.1 k).1
  rw[Gb];unfold G5
  simp only[z8,Ada,Int.toNat_zero,Adq,zy,Q9,Az]
  rw[show decide ((0:Int)<((0+1:Nat):Int))=true by decide,ct,show Ab 0 (0+1)=true by decide,ct,show wrap .i64 ((32:Int)*0)=0 by decide,show decide ((0:Int)<0)=false by decide,cf]
  rw[Gb];unfold G5
  rw[show wrap .i64 ((0:Int)+1)=1 by decide,show decide ((1:Int)<((0+1:Nat):Int))=false by decide,cf]
  have e:wrap .u64 ((wrap .u64 (x:Int))*2 ^ (min (Int.toNat 0) 64))=(x:Int):=by rw[G3 (by omega)];simp;exact G3 (by omega)
  rw[e,show(0:Int)=((0:Nat):Int) by rfl,lQ (by omega) (by omega)]
  simp[val]
| [x,y],k,_ =>
  have G:=(Cj.1 k).1
  have L:=(Cj.1 (Cj.1 k).2).1
  rw[Gb];unfold G5
  simp only[z8,Ada,Int.toNat_zero,Adq,zy,Q9,Az]
  rw[show decide ((0:Int)<((0+1+1:Nat):Int))=true by decide,ct,show Ab 0 (0+1+1)=true by decide,ct,show wrap .i64 ((32:Int)*0)=0 by decide,show decide ((0:Int)<0)=false by decide,cf]
  rw[Gb];unfold G5
  rw[show wrap .i64 ((0:Int)+1)=1 by decide,show decide ((1:Int)<((0+1+1:Nat):Int))=true by decide,ct,show Ab 1 (0+1+1)=true by decide,ct,show wrap .i64 ((32:Int)*1)=32 by decide,show decide ((32:Int)<0)=false by decide]
  simp only[show Int.toNat 1*1=1 by rfl,Abu,zy,Az,cf]
  rw[Gb];unfold G5
  rw[show wrap .i64 ((1:Int)+1)=2 by decide,show decide ((2:Int)<((0+1+1:Nat):Int))=false by decide,cf]
  have e:wrap .u64 ((wrap .u64 (x:Int))*2 ^ (min (Int.toNat 0) 64))=(x:Int):=by rw[G3 (by omega)];simp;exact G3 (by omega)
  have I:wrap .u64 ((wrap .u64 (y:Int))*2 ^ (min (Int.toNat 32) 64))=((y*2 ^ 32:Nat):Int):=by
   rw[G3 (by omega),show(2:Int) ^ (min (Int.toNat 32) 64)=((2 ^ 32:Nat):Int) by rfl,ZY,G3 (by omega)]
  rw[e,I,show(0:Int)=((0:Nat):Int) by rfl,lQ (by omega) (by omega),lQ (by simp;omega) (by omega),Nat.zero_or,Afs,OB (by omega)]
  congr 1;simp only[val];omega
def Hn{N:Nat}{v:Nat}(D:v<18446744073709551616)(hN:4<=N):∃ S,Ag S/\val S=v/\∀ K:Nat->LA->O R,Bn N (v:Int) K=K (Al v).length (Ad S):=by
 have C:Ag [v%4294967296,v/4294967296]:=Cj.2 ⟨by omega,Cj.2 ⟨by omega,Nc⟩⟩
 have k:val [v%4294967296,v/4294967296]=v:=by simp[val];omega
 refine⟨_,C,k,fun K=>?_⟩
 rw[Tx];unfold R3
 rw[KD,ST,oA (show v/4294967296<4294967296 by omega)]
 have:=WR (R:=R) (N:=N) (l:=[v%4294967296,v/4294967296]) (K:=fun c=>K c (Ad [v%4294967296,v/4294967296])) C (by simp) 2 N (by simp) (by omega)
 rw[show [v%4294967296,v/4294967296].take 2=[v%4294967296,v/4294967296] by rfl,k]at this
 rw[HQ];unfold KE
 exact this
def Jh{N:Nat}{l:List Nat}{n:Nat}{t o:Bool}{K:Int->Bool->O R}(C:n=l.length)(D:Ag l)(k:fit l.length N):V7 N (Ad l) n t o K=if val l<18446744073709551616 then K (val l:Int) true else K 0 false:=by
 have I:=k.1
 rw[FS];unfold HS
 rw[Bi C D k]
 by_cases h:val l<18446744073709551616
 ·have:=Y8 h
  rw[if_pos h,show decide ((((Al (val l)).length:Nat):Int)>2)=false by simp;omega,cf,W6 rfl (Ac _) this (by omega),Af]
 ·have:¬ (Al (val l)).length<=2:=fun G=>h (MR G)
  rw[if_neg h,show decide ((((Al (val l)).length:Nat):Int)>2)=true by simp;omega,ct]
def EQ{N:Nat}{l:List Nat}{n:Nat}{t o:Bool}{K:Nat->LA->O R}(D:n=l.length)(C:Ag l)(k:fit l.length N):T0 N (Ad l) n t o K=K (Al (val l)).length (Ad (Al (val l))):=by
 have G:=k.1;have I:=k.2
 have:=(A7 C).2
 rw[RK];unfold WO
 rw[Bi D C k,qL (by omega),ct,Tv,Adl,ct]
 congr 1
 unfold D8
 rw[Nat.min_self,zY,List.take_zero,Adb,zF (by rw[Bk];exact zE _),Aaa (by simp[Bk]),Abz]
def yk:Lu:=[0,1,2,2,3,3,3,3,4,4,4,4,4,4,4,4,5,5,5,5,5,5,5,5,5,5,5,5,5,5,5,5,6,6,6,6,6,6,6,6,6,6,6,6,6,6,6,6,6,6,6,6,6,6,6,6,6,6,6,6,6,6,6,6,7,7,7,7,7,7,7,7,7,7,7,7,7,7,7,7,7,7,7,7,7,7,7,7,7,7,7,7,7,7,7,7,7,7,7,7,7,7,7,7,7,7,7,7,7,7,7,7,7,7,7,7,7,7,7,7,7,7,7,7,7,7,7,7,8,8,8,8,8,8,8,8,8,8,8,8,8,8,8,8,8,8,8,8,8,8,8,8,8,8,8,8,8,8,8,8,8,8,8,8,8,8,8,8,8,8,8,8,8,8,8,8,8,8,8,8,8,8,8,8,8,8,8,8,8,8,8,8,8,8,8,8,8,8,8,8,8,8,8,8,8,8,8,8,8,8,8,8,8,8,8,8,8,8,8,8,8,8,8,8,8,8,8,8,8,8,8,8,8,8,8,8,8,8,8,8,8,8,8,8,8,8,8,8,8,8,8,8,8,8,8,8]
def sW:∀ i:Fin 256,0<i.1->2 ^ (yk.getD i.1 0).toNat<=2*i.1/\i.1<2 ^ (yk.getD i.1 0).toNat:=by decide +kernel
def YV{k y x m:Nat}(h:2 ^ k<=2*y/\y<2 ^ k)(C:y=x/2 ^ m):2 ^ (k+m)<=2*x/\x<2 ^ (k+m):=by
 have D:0<2 ^ m:=Aah (by omega)
 have G:x<2 ^ m*(y+1):=by rw[C];have:=zx x (2 ^ m);have:=Aav x D;rw[zN];omega
 have I:2 ^ m*y<=x:=by rw[C];exact Nat.mul_div_le x _
 have L:2 ^ m*(y+1)<=2 ^ m*2 ^ k:=zW _ h.2
 have T:2 ^ m*2 ^ k<=2 ^ m*(2*y):=zW _ h.1
 rw[Aab,zH (2 ^ k)]
 have Y:2 ^ m*(2*y)=2*(2 ^ m*y):=by rw[Aa3]
 omega
def tK{a:Nat}(h:a<256):wrap .u8 (a:Int)=(a:Int):=by rw[wrap_u8];congr 1;omega
def tL{N:Nat}{a b:Nat}{K:Int->O R}(L:0<a)(T:a<65536)(Y:b<=16):∃ k:Nat,2 ^ k<=2*a/\a<2 ^ k/\k<=16/\Dy N K (a:Int) (b:Int)=K ((b+k:Nat):Int):=by
 have small:∀ i:Nat,0<i->i<256->∃ k:Nat,(2 ^ k<=2*i/\i<2 ^ k)/\k<=8/\(yk.getD i 0).toNat=k:=by
  intro i hi C
  have:=sW ⟨i,C⟩ hi
  refine⟨_,this,?_,rfl⟩
  rcases Ado 8 (yk.getD i 0).toNat with h|h
  ·have I:=this.1
   have h4:2 ^ 9<=2 ^ (yk.getD i 0).toNat:=zh (by omega) h
   simp only at I
   omega
  ·exact h
 by_cases h:a>=256
 ·obtain⟨k,p1,p2,D⟩:=small (a/256) (by omega) (by omega)
  have G:=YV (m:=8) p1 (show a/256=a/2 ^ 8 by rfl)
  refine⟨k+8,G.1,G.2,by omega,?_⟩
  unfold Dy
  rw[show decide ((a:Int)>=256)=true by simp;omega,ct,Lo a 8,show a/2 ^ 8=a/256 by rfl,tK (by omega),Aa (by omega),ct,zG]
  change K (wrap .i64 (wrap .i64 ((b:Int)+8)+wrap .i64 (((yk.getD (a/256) 0).toNat:Nat):Int)))=_
  rw[D,i64 (a:=(b:Int)+8) (by omega),i64 (a:=(k:Int)) (by omega),i64 (by omega)]
  congr 1;omega
 ·obtain⟨k,p1,p2,D⟩:=small a (by omega) (by omega)
  refine⟨k,p1.1,p1.2,by omega,?_⟩
  unfold Dy
  rw[show decide ((a:Int)>=256)=false by simp;omega,cf,tK (by omega),Aa (by omega),ct,zG]
  change K (wrap .i64 ((b:Int)+wrap .i64 (((yk.getD a 0).toNat:Nat):Int)))=_
  rw[D,i64 (a:=(k:Int)) (by omega),i64 (by omega)]
  congr 1
def lq{N:Nat}{c:Nat}{K:Int->O R}(I:0<c)(L:c<4294967296):∃ k:Nat,2 ^ k<=2*c/\c<2 ^ k/\k<=32/\Hv N (c:Int) K=K (k:Int):=by
 rw[Pg];unfold Js
 by_cases h:c>=65536
 ·obtain⟨k,p1,p2,G,C⟩:=tL (R:=R) (N:=N) (a:=c/65536) (b:=16) (K:=K) (by omega) (by omega) (by omega)
  have D:=YV (m:=16) ⟨p1,p2⟩ (show c/65536=c/2 ^ 16 by rfl)
  refine⟨k+16,D.1,D.2,by omega,?_⟩
  rw[show decide ((c:Int)>=65536)=true by simp;omega,ct,Lo c 16,show c/2 ^ 16=c/65536 by rfl]
  rw[Acc k];exact C
 ·obtain⟨k,p1,p2,G,C⟩:=tL (R:=R) (N:=N) (a:=c) (b:=0) (K:=K) (by omega) (by omega) (by omega)
  refine⟨k,p1,p2,by omega,?_⟩
  rw[show decide ((c:Int)>=65536)=false by simp;omega,cf]
  rw[zU]at C;exact C
def mt{N:Nat}{c:Nat}(I:0<c)(L:c<4294967296):∃ s:Nat,s<=31/\2147483648<=c*2 ^ s/\c*2 ^ s<4294967296/\∀ K:Int->O R,Bx N (c:Int) K=K (s:Int):=by
 have key:∀ K:Int->O R,∃ s:Nat,(s<=31/\2147483648<=c*2 ^ s/\c*2 ^ s<4294967296)/\Bx N (c:Int) K=K (s:Int):=by
  intro K
  rw[Hw];unfold Fr
  obtain⟨k,p1,p2,p3,T⟩:=lq (R:=R) (N:=N) (K:=fun c=>K (wrap .i64 ((32:Int) - c))) I L
  have e:2 ^ k*2 ^ (32 - k)=4294967296:=by rw[<-Aab,show k+(32 - k)=32 by omega]
  have hk:1<=k:=by
   rcases z6 k with h|h
   ·subst h;simp at p2;omega
   ·exact h
  refine⟨32 - k,⟨by omega,?_,?_⟩,?_⟩
  ·have:=zI (2 ^ (32 - k)) p1
   rw[e,zL]at this;omega
  ·have:=(Abi (show 0<2 ^ (32 - k)from Aah (by omega))).2 p2
   rw[e]at this;exact this
  ·rw[T,i64 (by omega)];congr 1;omega
 obtain⟨s,hs,_⟩:=key fun _=>none
 refine⟨s,hs.1,hs.2.1,hs.2.2,fun K=>?_⟩
 obtain⟨C,Y,e⟩:=key K
 have:C=s:=by
  rcases Nat.lt_trichotomy s C with h|h|h
  ·exfalso
   have D:2 ^ (s+1)<=2 ^ C:=zh (by omega) h
   have G:=zW c D
   rw[zR,<-zL]at G
   omega
  ·exact h.symm
  ·exfalso
   have D:2 ^ (C+1)<=2 ^ s:=zh (by omega) h
   have G:=zW c D
   rw[zR,<-zL]at G
   omega
 rw[e,this]
def gi{s:Nat}(h:s<=31):2 ^ s<=2147483648:=zh (n:=2) (by omega) h
def qr{x c s:Nat}(C:x<4294967296)(hc:c<2 ^ s)(hs:s<=31):K5 .u64 (c:Int) (wrap .u64 ((wrap .u64 (x:Int))*2 ^ (min (Int.toNat (s:Int)) 64)))=((x*2 ^ s+c:Nat):Int)/\x*2 ^ s+c<4294967296*2 ^ s:=by
 have D:=gi hs
 have G:x*2 ^ s<=4294967295*2 ^ s:=zI _ (by omega)
 have k:(x+1)*2 ^ s<=4294967296*2 ^ s:=zI _ (by omega)
 rw[zS]at k
 refine⟨?_,by omega⟩
 rw[G3 (by omega),zG,zZ (by omega),show(2:Int) ^ s=((2 ^ s:Nat):Int) by simp,ZY,G3 (by omega),lQ (by omega) (by omega),Afs,OB hc]
def MS{N:Nat}{a:List Nat}{t o:Bool}{s:Nat}(ha:Ag a)(hs:s<=31)(G:a.length<=1000000000000):∀(m d k:Nat)(S:List Nat)(c:Nat),d+m=a.length->m<k->Ag S->S.length=a.length+1->pL S d->c<2 ^ s ->
  val S+4294967296 ^ d*c=val (a.take d)*2 ^ s ->
  ∃ S',Ag S'/\S'.length=a.length+1/\val S'=val a*2 ^ s/\∀ K:Nat->LA->O R,Gc N K (Ad a) a.length t o (s:Int) k (a.length+1) (c:Int) (a.length:Int) (d:Int) (Ad S)=K (a.length+1) (Ad S')
|0,d,k+1,S,c,hd,_,hS,I,D,hc,L=>by
  have T:d=a.length:=by omega
  subst T
  have hp:=gi hs
  rw[zd]at L
  refine⟨S.set a.length c,Cc hS (by omega) _,by simpa using I,by rw[Qt D (by omega),L],fun K=>?_⟩
  rw[Gc];unfold Lv
  rw[Wc (zE _),cf,Aa (by omega),ct,vg (by omega),ct,oA (by omega),tJ]
| m+1,d,k+1,S,c,hd,hfu,hS,I,D,hc,L=>by
  have C:d<a.length:=by omega
  have ad:=A0 ha C
  obtain⟨w1,w2⟩:=qr ad hc hs
  generalize Y:a[d]*2 ^ s+c=w at *
  have hpos:0<2 ^ s:=Aah (by omega)
  have key:val (S.set d (w%4294967296))+4294967296 ^ (d+1)*(w/4294967296)=val (a.take (d+1))*2 ^ s:=by
   rw[Qt D (by omega),Au C,zR,zS,zL _ a[d]]
   have e:=Lh (4294967296 ^ d) w
   have e2:4294967296 ^ d*w=4294967296 ^ d*(a[d]*2 ^ s)+4294967296 ^ d*c:=by rw[<-Y,zN]
   omega
  obtain⟨S',q1,q2,q3,q4⟩:=MS (t:=t) (o:=o) ha hs G m (d+1) k (S.set d (w%4294967296)) (w/4294967296) (by omega) (by omega) (Cc hS (by omega) d) (by simpa using I) (Ux D) (Abq w2) key
  refine⟨S',q1,q2,q3,fun K=>?_⟩
  rw[Gc];unfold Lv
  rw[T6 C,ct,Aa C,ct,CB C,show decide ((s:Int)<0)=false by simp,cf,Aa (by omega),ct,hI (by omega),ct,w1,ST,KD,IB,wS (by omega)]
  exact q4 K
def MT{N:Nat}{a:List Nat}{n:Nat}{t o:Bool}{s:Nat}(C:n=a.length)(D:Ag a)(hs:s<=31)(k:fit a.length N):
  ∃ S',Ag S'/\S'.length=a.length+1/\val S'=val a*2 ^ s/\∀ K:Nat->LA->O R,Ni N (Ad a) n t o (s:Int) K=K (a.length+1) (Ad S'):=by
 subst C
 have Y:=k.1;have h2:=k.2
 obtain⟨S',G,I,L,T⟩:=MS (R:=R) (N:=N) (t:=t) (o:=o) D hs (by omega) a.length 0 N (replicate (a.length+1) 0) 0 (by omega) (by omega) (Cb _) (by simp) (Ii _) (Aah (by omega)) (by rw[D3];simp[val])
 refine⟨S',G,I,L,fun K=>?_⟩
 rw[CA];unfold T5
 rw[yO (by omega),qL (by omega),ct,zG,Cy]
 exact T K
def tM{P U Q:List Nat}{i:Nat}(h:i<U.length){f:Int->O R}:Am .u32 (drop (P.length+((Int.toNat (i:Int))*1)) (Ad (P++(U++Q)))) f=f (U[i]:Nat):=by
 rw[zG,zY,jL (by simp;omega)]
 congr 2
 rw[Aa2 (by omega)]
 simp only[Aeb]
 rw[za h]
def vh{P U Q:List Nat}{i:Nat}(h:i<U.length):((beq 1 1)&&((ble ((P.length+((Int.toNat (i:Int))*1))+1) (List.length (Ad (P++(U++Q)))))&&(!false)))=true:=by rw[Bk,zG];simp;omega
def qs{P U Q:List Nat}{i v:Nat}(h:i<U.length):List.set (Ad (P++(U++Q))) (P.length+((Int.toNat (i:Int))*1)) (.int .u32 (v:Int))=Ad (P++(U.set i v++Q)):=by rw[zG,zY,KC,Aep _ _ (by omega),Aeb,List.set_append_left _ _ h]
def xn{P U Q:List Nat}{i:Nat}(h:i<U.length){f:Int->O R}:Am .u32 (drop (P.length+(i*1)) (Ad (P++(U++Q)))) f=f (U[i]:Nat):=by have:=tM (R:=R) (P:=P) (Q:=Q) (f:=f) h;rw[zG]at this;exact this
def MU{X:List Nat}{p g:Nat}(h:p<X.length):val ((X.set p g).take (p+1))=val (X.take p)+4294967296 ^ p*g:=by rw[Au (by simpa using h),Aem,List.take_set_of_le (zE _)]
def W7{X:List Nat}{n:Nat}(h:X.length=n+1):val X=val (X.take n)+4294967296 ^ n*X[n]:=by
 have:=Au (l:=X) (c:=n) (by omega)
 rwa [zF (by omega)]at this
def mu{D:Nat}(h:1<=D)(k:D<18446744073709551616):wrap .u64 ((D:Int) - 1)=((D - 1:Nat):Int):=by rw[HP];omega
def sX{D y t:Nat}(hD:D<4294967296)(k:y<4294967296)(C:t<=4294967296):D*y+t<18446744073709551616/\(D*y+t)/4294967296+1<=4294967296:=by
 have:D*y<=4294967295*4294967295:=Aa4 (by omega) (by omega)
 omega
def mv{N:Nat}{P Q X v:List Nat}{n D:Nat}{f g:Bool}(hv:Ag v)(hn:v.length=n)(hX:Ag X)(hXl:X.length=n+1)(hs:n<=1000000000000)(hD:D<4294967296)(hD1:1<=D){r:Nat}(hr:val X+val v=4294967296 ^ (n+1)+r)(hrv:r<4294967296 ^ n):
  ∀(m o k:Nat)(Y:List Nat)(c:Nat),o+m=n->m<k->Ag Y->Y.length=n+1->(∀ j (h1:j<Y.length) (h2:j<X.length),o<=j->Y[j]=X[j])->c<=1->val (Y.take o)+4294967296 ^ o*c=val (X.take o)+val (v.take o) ->
  ∃ Y',Ag Y'/\Y'.length=n+1/\val Y'=r/\∀ K:Int->LA->O R,Fu N K P.length (n+1) (n:Int) (D:Int) (Ad v) n f g k (c:Int) (n:Int) (o:Int) (Ad (P++(Y++Q)))=K ((D - 1:Nat):Int) (Ad (P++(Y'++Q)))
| 0,o,k+1,Y,c,ho,_,hY,hYl,G,hc,I=>by
  have ho':o=n:=by omega
  subst ho'
  rw[show v.take o=v by rw[<-hn];exact zd]at I
  have e1:=W7 hXl
  have eq:val (Y.take o)+4294967296 ^ o*(X[o]+c)=4294967296 ^ o*4294967296+r:=by
   rw[zN,<-zR];omega
  have yt:=Be (B7 hY o)
  rw[zT,zZ (by omega)]at yt
  have hP:0<4294967296 ^ o:=Aah (by omega)
  have hw:X[o]+c=4294967296:=by
   have h1:(val (Y.take o)+4294967296 ^ o*(X[o]+c))/4294967296 ^ o=X[o]+c:=by rw[Abh _ _ hP,zw yt,zU]
   have h2:(4294967296 ^ o*4294967296+r)/4294967296 ^ o=4294967296:=by rw[Ack hP,zw hrv,zg]
   rw[<-h1,eq,h2]
  have hyr:val (Y.take o)=r:=by rw[hw]at eq;omega
  have L:Y[o]=X[o]:=G o (by omega) (by omega) (zE _)
  have hl2:(Y.set o 0).length=o+1:=by simpa using hYl
  refine⟨Y.set o 0,Cc hY (by omega) o,hl2,?_,fun K=>?_⟩
  ·have:=MU (X:=Y) (p:=o) (g:=0) (by omega)
   rw[zF (by omega),hyr]at this;simpa using this
  ·rw[Fu];unfold Ju
   have hXo:=A0 hX (show o<X.length by omega)
   rw[Wc (zE _),cf,Aa (by omega),ct,tM (by omega),ct,vh (by omega),ct,L,oA (show c<4294967296 by omega),AL,hw,KD,qs (by omega),mu hD1 (by omega),oA (by omega)]
| m+1,o,k+1,Y,c,ho,hfu,hY,hYl,G,hc,I=>by
  have hon:o<n:=by omega
  have T:o<v.length:=by omega
  have vo:=A0 hv T
  have C:o<Y.length:=by omega
  have yo:=A0 hY C
  have L:Y[o]=X[o]:=G o (by omega) (by omega) (zE _)
  have hs1:c+(Y[o]+v[o])<18446744073709551616:=by omega
  have hs2:(c+(Y[o]+v[o]))/4294967296<=1:=by omega
  generalize hsd:c+(Y[o]+v[o])=s at *
  have key:val ((Y.set o (s%4294967296)).take (o+1))+4294967296 ^ (o+1)*(s/4294967296)=val (X.take (o+1))+val (v.take (o+1)):=by
   rw[MU C,Au (l:=X) (by omega),Au T,zR]
   have e:=Lh (4294967296 ^ o) s
   have e2:4294967296 ^ o*s=4294967296 ^ o*c+(4294967296 ^ o*X[o]+4294967296 ^ o*v[o]):=by rw[<-hsd,zN,zN,L]
   omega
  obtain⟨Y',q1,q2,q3,q4⟩:=mv (N:=N) (P:=P) (Q:=Q) (f:=f) (g:=g) hv hn hX hXl hs hD hD1 hr hrv m (o+1) k (Y.set o (s%4294967296)) (s/4294967296) (by omega) (by omega) (Cc hY (by omega) o) (by simpa using hYl) (fun j h1 h2 hj=>by rw[Ac1,if_neg (by omega)];exact G j (by simpa using h1) h2 (by omega)) hs2 key
  refine⟨Y',q1,q2,q3,fun K=>?_⟩
  rw[Fu];unfold Ju
  rw[T6 hon,ct,Aa hon,ct,CB T,Aa (by omega),ct,tM C,ct,vh C,ct,G3 (show v[o]<18446744073709551616 by omega),G3 (show Y[o]<18446744073709551616 by omega),AL,G3 (by omega),AL,hsd,G3 hs1,ST,KD,qs C,wS (by omega)]
  exact q4 K
def qu{N:Nat}{P Q U v:List Nat}{n D:Nat}{f g:Bool}(hv:Ag v)(hn:v.length=n)(hU:Ag U)(hUl:U.length=n+1)(hs:n<=1000000000000)(hN:n+2<N)(hD:D<4294967296)(T:0<val v)(hq1:val U/val v<=D)(hq2:D<=val U/val v+1):
  ∀(m p k:Nat)(X:List Nat)(t:Nat),p+m=n->m<k->Ag X->X.length=n+1->(∀ j (h1:j<X.length) (h2:j<U.length),p<=j->X[j]=U[j])->t<=4294967296->val (X.take p)+D*val (v.take p)=val (U.take p)+4294967296 ^ p*t ->
  ∃ X',Ag X'/\X'.length=n+1/\val X'=val U%val v/\∀ K:Int->LA->O R,Ev N K P.length (n+1) (Ad v) n f g (n:Int) (D:Int) k (t:Int) (n:Int) (p:Int) (Ad (P++(X++Q)))=K ((val U/val v:Nat):Int) (Ad (P++(X'++Q)))
| 0,p,k+1,X,t,hp,_,hX,hXl,C,ht,L=>by
  have hp':p=n:=by omega
  subst hp'
  rw[show v.take p=v by rw[<-hn];exact zd]at L
  have hXp:X[p]=U[p]:=C p (by omega) (by omega) (zE _)
  have up:=A0 hU (show p<U.length by omega)
  obtain⟨d,c,g1,g2,g3,g4,g5⟩:=EP up ht
  have G:(X.set p d).length=p+1:=by simpa using hXl
  have hX2:=Cc hX g1 p
  have hv2:val (X.set p d)=val (X.take p)+4294967296 ^ p*d:=by
   have:=MU (X:=X) (p:=p) (g:=d) (by omega)
   rwa [zF (by omega)]at this
  have eU:=W7 hUl
  have main:val (X.set p d)+D*val v=val U+4294967296 ^ (p+1)*c:=by
   have e:4294967296 ^ p*(U[p]+4294967296*c)=4294967296 ^ p*(d+t):=by rw[g3]
   rw[zN,zN,<-zL]at e
   rw[hv2,eU,zR];omega
  have hlt:=Be hX2
  rw[G]at hlt
  have hdm:=zx (val U) (val v)
  have hmod:=Aav (val U) T
  have vlt:=Be hv
  rw[hn]at vlt
  by_cases hc:c=0
  ·subst hc
   have hDq:D=val U/val v:=by
    have:D<=val U/val v:=by rw[Ab1 T];omega
    omega
   refine⟨X.set p d,hX2,G,?_,fun K=>?_⟩
   ·rw[hDq,zH]at main;omega
   ·rw[Ev];unfold Gu
    rw[Wc (zE _),cf,Aa (by omega),ct,tM (by omega),ct,vh (by omega),ct,hXp,G3 (show U[p]<18446744073709551616 by omega),g4,g5,show(((0:Nat):Int)==0)=true by rfl,ct,oA hD,qs (by omega),hDq]
  ·have hc1:c=1:=by omega
   subst hc1
   have hDq:D=val U/val v+1:=by
    have:¬ D<=val U/val v:=fun h=>by
     have:=zW (val v) h
     rw[zH]at this
     omega
    omega
   have hr:val (X.set p d)+val v=4294967296 ^ (p+1)+val U%val v:=by
    rw[hDq,zS,zH (val U/val v)]at main;omega
   obtain⟨Y',q1,q2,q3,q4⟩:=mv (R:=R) (N:=N) (P:=P) (Q:=Q) (f:=f) (g:=g) (X:=X.set p d) hv hn hX2 G hs hD (by rw[hDq];exact Nat.le_add_left 1 _) hr (by omega) p 0 N (X.set p d) 0 (by omega) (by omega) hX2 G (fun _ _ _ _=>rfl) (by omega) (by simp[val])
   refine⟨Y',q1,q2,q3,fun K=>?_⟩
   rw[Ev];unfold Gu
   rw[Wc (zE _),cf,Aa (by omega),ct,tM (by omega),ct,vh (by omega),ct,hXp,G3 (show U[p]<18446744073709551616 by omega),g4,g5,show(((1:Nat):Int)==0)=false by rfl,cf,qs (by omega)]
   have:=q4 K
   rw[show D - 1=val U/val v by rw[hDq];rfl]at this
   exact this
| m+1,p,k+1,X,t,hp,hfu,hX,hXl,C,ht,L=>by
  have hpn:p<n:=by omega
  have hpv:p<v.length:=by omega
  have vp:=A0 hv hpv
  have I:p<X.length:=by omega
  have hXp:X[p]=U[p]:=C p (by omega) (by omega) (zE _)
  have up:=A0 hU (show p<U.length by omega)
  obtain⟨hw1,hw2⟩:=sX hD vp ht
  have hDv:D*v[p]<18446744073709551616:=by omega
  generalize hpp:D*v[p]+t=w at *
  obtain⟨d,c,g1,g2,g3,g4,g5⟩:=EP up (show w%4294967296<=4294967296 by omega)
  have key:val ((X.set p d).take (p+1))+D*val (v.take (p+1))=val (U.take (p+1))+4294967296 ^ (p+1)*(w/4294967296+c):=by
   rw[MU I,Au hpv,Au (l:=U) (by omega),zR]
   have e:=Lh (4294967296 ^ p) w
   have e2:4294967296 ^ p*w=4294967296 ^ p*(D*v[p])+4294967296 ^ p*t:=by rw[<-hpp,zN]
   have e3:4294967296 ^ p*(U[p]+4294967296*c)=4294967296 ^ p*(d+w%4294967296):=by rw[g3]
   rw[zN,zN,<-zL]at e3
   have e4:D*(val (v.take p)+4294967296 ^ p*v[p])=D*val (v.take p)+4294967296 ^ p*(D*v[p]):=by rw[zN,Aa3]
   rw[e4,zN]
   omega
  obtain⟨X',q1,q2,q3,q4⟩:=qu (N:=N) (P:=P) (Q:=Q) (f:=f) (g:=g) hv hn hU hUl hs hN hD T hq1 hq2 m (p+1) k (X.set p d) (w/4294967296+c) (by omega) (by omega) (Cc hX g1 p) (by simpa using hXl) (fun j h1 h2 hj=>by rw[Ac1,if_neg (by omega)];exact C j (by simpa using h1) h2 (by omega)) (by omega) key
  refine⟨X',q1,q2,q3,fun K=>?_⟩
  rw[Ev];unfold Gu
  rw[T6 hpn,ct,Aa hpn,ct,CB hpv,Aa (by omega),ct,tM I,ct,vh I,ct,hXp,G3 (show v[p]<18446744073709551616 by omega),ZY,G3 hDv,AL,hpp,G3 hw1,KD,G3 (show w%4294967296<18446744073709551616 by omega),G3 (show U[p]<18446744073709551616 by omega),g4,g5,ST,AL,G3 (by omega),qs I,wS (by omega)]
  exact q4 K
def GW(a b:Nat):Int.tdiv (a:Int) (b:Int)=((a/b:Nat):Int):=rfl
def DD(a b:Nat):Int.tmod (a:Int) (b:Int)=((a%b:Nat):Int):=rfl
def tN{l:Nat}(h:l<4294967296):((Int.fdiv (l:Int) (2 ^ 32)) != (0:Int))=false:=by rw[ST,zw h];rfl
def tO{l:Nat}(h:4294967296<=l):((Int.fdiv (l:Int) (2 ^ 32)) != (0:Int))=true:=by
 have k:l/4294967296≠0:=by omega
 rw[ST];rw[bne_iff_ne];omega
def uS{a b:Nat}(k:a<4294967296)(C:b<4294967296):K5 .u64 (wrap .u64 ((a:Int)*2 ^ 32)) (b:Int)=((a*4294967296+b:Nat):Int):=by rw[show(2:Int) ^ 32=((2 ^ 32:Nat):Int) by rfl,ZY,G3 (by omega),lQ (by omega) (by omega),OB (by omega)]
def uT{B l v1 v2 m u2:Nat}(h:m*B+u2<l*v2):(l*v1+m)*B+u2<l*(v1*B+v2):=by rw[zS,zN,<-zL l v1];omega
def uU{B l v1 v2 m u2:Nat}(h:l*v2<=m*B+u2):l*(v1*B+v2)<=(l*v1+m)*B+u2:=by rw[zS,zN,<-zL l v1];omega
def uV{B u0 u1 u2 v1 v2:Nat}(k:v2<B)(h:(u0*B+u1)*B+u2<(v1*B+v2+1)*B):u0*B+u1<v1*B+B:=by
 have:u0*B+u1<v1*B+v2+1:=Ab9 (zl (Nat.le_add_right _ u2) h)
 omega
def vP(P x:Nat):P*4294967296*x=P*(x*4294967296):=by rw[zL,zH 4294967296]
def qv{N:Nat}{P Q U v:List Nat}{n:Nat}{f g:Bool}{K:Int->LA->O R}(hn:v.length=n+2)(hv:Ag v)(hU:Ag U)(hUl:U.length=n+3)(hs:n<=1000000000000){v1 v2 u2 top:Nat}
  (e1:v[n+1]'(by omega)=v1) (e2:v[n]'(by omega)=v2) (e3:U[n]'(by omega)=u2) (hv1:2147483648<=v1) (htop:top<v1*4294967296+4294967296)
  (hV:(v1*4294967296+v2)*4294967296 ^ n<=val v) (hV':val v<(v1*4294967296+v2+1)*4294967296 ^ n) (hUU:(top*4294967296+u2)*4294967296 ^ n<=val U) (hUU':val U<(top*4294967296+u2+1)*4294967296 ^ n) (hq:val U/val v<4294967296) :
  ∀(k C l m:Nat),k<C->4294967296<=m+k*2147483648->m<4294967296->l*v1+m=top->val U/val v<=l->∃ D,D<4294967296/\val U/val v<=D/\D<=val U/val v+1 /\
   Dp N K P.length (n+3) (Ad v) (n+2) f g (Ad (P++(U++Q))) C ((n+2:Nat):Int) (l:Int) (m:Int)=Do N K P.length (n+3) (Ad v) (n+2) f g ((n+2:Nat):Int) (Ad (P++(U++Q))) (D:Int):=by
 have b1:=A0 hv (show n+1<v.length by omega)
 have b2:=A0 hv (show n<v.length by omega)
 have b3:=A0 hU (show n<U.length by omega)
 rw[e1]at b1;rw[e2]at b2;rw[e3]at b3
 have hP:0<4294967296 ^ n:=Aah (by omega)
 have Y:0<val v:=zV (Ad1 (by omega) hP) hV
 intro k
 induction k with
|zero=>intro C l m _ h1 h2;omega
| succ k ih =>
  intro C l m hf hm hm2 htm hql
  obtain⟨C,rfl⟩:∃ F,C=F+1:=⟨C - 1,by omega⟩
  generalize hqq:val U/val v=q at *
  have wi1:wrap .i64 (((n+2:Nat):Int) - 1)=((n+1:Nat):Int):=by rw[i64 (by omega)];omega
  have wi2:wrap .i64 (((n+2:Nat):Int) - 2)=(n:Int):=by rw[i64 (by omega)];omega
  have lower:q<l->l<18446744073709551616->∃ D,D<4294967296/\q<=D/\D<=q+1 /\
    Hx N (Dp N K P.length (n+3) (Ad v) (n+2) f g (Ad (P++(U++Q))) C) K P.length (n+3) (Ad v) (n+2) f g ((n+2:Nat):Int) (l:Int) (m:Int) (Ad (P++(U++Q)))=Do N K P.length (n+3) (Ad v) (n+2) f g ((n+2:Nat):Int) (Ad (P++(U++Q))) (D:Int):=by
   intro hlt G
   have T:(l - 1)*v1+(m+v1)=top:=by
    have:l*v1=(l - 1)*v1+v1:=by
     obtain⟨l',rfl⟩:∃ l',l=l'+1:=⟨l - 1,by omega⟩
     rw[zS];simp
    omega
   unfold Hx Nk
   rw[wi1,Aa (by omega),ct,CB (show n+1<v.length by omega),e1,G3 (show v1<18446744073709551616 by omega),AL,G3 (show m+v1<18446744073709551616 by omega),mu (by omega) G]
   by_cases hbig:4294967296<=m+v1
   ·have hDB:l - 1<4294967296:=by
     apply Ac4;intro hge
     have:=zI v1 hge
     rw[zH 4294967296]at this
     omega
    have I:(l - 1)*(v1*4294967296+v2)<=top*4294967296+u2:=by
     have x1:(l - 1)*v2<=4294967295*4294967295:=Aa4 (by omega) (by omega)
     rw[<-T,zS,zN,<-zL]
     omega
    have L:=cD hV' hUU I (by omega) Y
    rw[hqq]at L
    exact⟨l - 1,hDB,by omega,L,by rw[tO hbig,ct]⟩
   ·obtain⟨D,d1,d2,d3,d4⟩:=ih C (l - 1) (m+v1) (by omega) (by omega) (by omega) T (by omega)
    exact⟨D,d1,d2,d3,by rw[tN (by omega),cf,d4]⟩
  rw[Dp];unfold Nl
  by_cases hlB:l<4294967296
  ·rw[tN hlB,show((false:Bool)==false)=true by rfl,ct,wi2,Aa (by omega),ct,CB (show n<v.length by omega),Aa (by omega),ct,tM (show n<U.length by omega),xT,e2,e3,G3 (show v2<18446744073709551616 by omega),G3 (show u2<18446744073709551616 by omega),ZY]
   have x1:l*v2<=4294967295*4294967295:=Aa4 (by omega) (by omega)
   rw[G3 (show l*v2<18446744073709551616 by omega),uS hm2 b3]
   by_cases hgt:m*4294967296+u2<l*v2
   ·rw[show decide (((l*v2:Nat):Int)>((m*4294967296+u2:Nat):Int))=true by rw[decide_eq_true_eq];omega,ct]
    have hup:val U/val v<l:=cC hV hUU' (by rw[<-htm];exact uT hgt) Y
    rw[hqq]at hup
    exact lower hup (by omega)
   ·rw[show decide (((l*v2:Nat):Int)>((m*4294967296+u2:Nat):Int))=false by rw[decide_eq_false_iff_not];omega,cf]
    have I:l*(v1*4294967296+v2)<=top*4294967296+u2:=by
     rw[<-htm];exact uU (Aa7 hgt)
    have L:=cD hV' hUU I (by omega) Y
    rw[hqq]at L
    exact⟨l,hlB,hql,L,rfl⟩
  ·rw[tO (by omega),show((true:Bool)==false)=false by rfl,cf]
   have G:l<18446744073709551616:=by
    have:l*2147483648<=l*v1:=zW _ hv1
    omega
   exact lower (by omega) G
def YW{N:Nat}{P Q U v:List Nat}{n:Nat}{f g:Bool}(hn:v.length=n+2)(L:Ag v)(hU:Ag U)(hUl:U.length=n+3)(hs:n<=1000000000)(hN:n+8<N)(hv1:2147483648<=v[n+1]'(by omega))(hlt:val U<val v*4294967296):
  ∃ U',Ag U'/\U'.length=n+3/\val U'=val U%val v/\∀ K:Int->LA->O R,Jv N P.length (n+3) (Ad v) (n+2) f g (Ad (P++(U++Q))) K=K ((val U/val v:Nat):Int) (Ad (P++(U'++Q))):=by
 have b1:=A0 L (show n+1<v.length by omega)
 have b2:=A0 L (show n<v.length by omega)
 have b3:=A0 hU (show n<U.length by omega)
 have b4:=A0 hU (show n+1<U.length by omega)
 have b5:=A0 hU (show n+2<U.length by omega)
 have hP:0<4294967296 ^ n:=Aah (by omega)
 have vv:val v=val (v.take n)+4294967296 ^ n*(v[n+1]'(by omega)*4294967296+v[n]'(by omega)):=by
  have k:=Au (l:=v) (c:=n+1) (by omega)
  have C:=Au (l:=v) (c:=n) (by omega)
  rw[zF (by omega)]at k
  rw[k,C,zR,zN,zL,zH 4294967296 v[n+1]];omega
 have uu:val U=val (U.take n)+4294967296 ^ n*((U[n+2]'(by omega)*4294967296+U[n+1]'(by omega))*4294967296+U[n]'(by omega)):=by
  have h0:=Au (l:=U) (c:=n+2) (by omega)
  have k:=Au (l:=U) (c:=n+1) (by omega)
  have C:=Au (l:=U) (c:=n) (by omega)
  rw[zF (by omega)]at h0
  have x1:4294967296 ^ (n+2)*U[n+2]=4294967296 ^ n*(U[n+2]*4294967296*4294967296):=by rw[zR (n:=4294967296) (m:=n+1),zR,vP,vP]
  have x2:4294967296 ^ (n+1)*U[n+1]=4294967296 ^ n*(U[n+1]*4294967296):=by rw[zR,vP]
  rw[h0,k,C,x1,x2,zS,zN,zN];omega
 have tv:=Be (B7 L n)
 have tu:=Be (B7 hU n)
 rw[zT,zZ (by omega)]at tv tu
 generalize e1:v[n+1]'(by omega)=v1 at *
 generalize e2:v[n]'(by omega)=v2 at *
 generalize e3:U[n]'(by omega)=u2 at *
 generalize e4:U[n+1]'(by omega)=u1 at *
 generalize e5:U[n+2]'(by omega)=u0 at *
 have T:0<val v:=by
  have:0<4294967296 ^ n*(v1*4294967296+v2):=Ad1 hP (by omega)
  omega
 have hV:(v1*4294967296+v2)*4294967296 ^ n<=val v:=by rw[zH];omega
 have hV':val v<(v1*4294967296+v2+1)*4294967296 ^ n:=by rw[zH,zN];omega
 have hUU:((u0*4294967296+u1)*4294967296+u2)*4294967296 ^ n<=val U:=by rw[zH];omega
 have hUU':val U<((u0*4294967296+u1)*4294967296+u2+1)*4294967296 ^ n:=by rw[zH,zN];omega
 have hq:val U/val v<4294967296:=Abq hlt
 have G:u0*4294967296+u1<v1*4294967296+4294967296:=by
  have k:((u0*4294967296+u1)*4294967296+u2)*4294967296 ^ n<(v1*4294967296+v2+1)*4294967296 ^ n*4294967296:=by
   have:=(Abi (show 0<4294967296 by omega)).2 hV'
   omega
  rw[Acn]at k
  exact uV b2 (Ab9 k)
 obtain⟨top,Y⟩:∃ top,u0*4294967296+u1=top:=⟨_,rfl⟩
 rw[Y]at hUU hUU' G
 have hdm:=zx top v1
 have hmod:=Aav top (show 0<v1 by omega)
 have hq0:val U/val v<=top/v1:=by
  have k:val U/val v<top/v1+1:=by
   apply cC hV hUU' _ T
   have C:top<v1*(top/v1+1):=by rw[zN];omega
   have h3:(top+1)*4294967296<=v1*(top/v1+1)*4294967296:=zI _ C
   rw[zN,<-zL,zH _ v1]
   omega
  omega
 have key:∀ K:Int->LA->O R,∃ D,D<4294967296/\val U/val v<=D/\D<=val U/val v+1/\Jv N P.length (n+3) (Ad v) (n+2) f g (Ad (P++(U++Q))) K=Do N K P.length (n+3) (Ad v) (n+2) f g ((n+2:Nat):Int) (Ad (P++(U++Q))) (D:Int):=by
  intro K
  obtain⟨D,d1,d2,d3,I⟩:=qv (R:=R) (N:=N) (P:=P) (Q:=Q) (f:=f) (g:=g) (K:=K) hn L hU hUl (by omega) e1 e2 e3 hv1 G hV hV' hUU hUU' hq 2 N (top/v1) (top%v1) (by omega) (by omega) (by omega) (by rw[zH];exact hdm) hq0
  refine⟨D,d1,d2,d3,?_⟩
  rw[<-I,Wa];unfold N7
  have wi1:wrap .i64 (((n+2:Nat):Int) - 1)=((n+1:Nat):Int):=by rw[i64 (by omega)];omega
  rw[Aa (by omega),ct,xn (show n+2<U.length by omega),wi1,Aa (by omega),ct,tM (show n+1<U.length by omega),Aa (by omega),ct,CB (show n+1<v.length by omega),e1,e4,e5,G3 (show v1<18446744073709551616 by omega),a_ (by omega),cf,ct,CB (show n+1<v.length by omega),e1,G3 (show v1<18446744073709551616 by omega),a_ (by omega),cf,G3 (show u0<18446744073709551616 by omega),G3 (show u1<18446744073709551616 by omega),uS b5 b4,Y,GW,DD,G3 (show top/v1<18446744073709551616 from zl (Aaw _ _) (by omega))]
 have fin:∀ D,D<4294967296->val U/val v<=D->D<=val U/val v+1->∃ U',Ag U'/\U'.length=n+3/\val U'=val U%val v/\∀ K:Int->LA->O R,Do N K P.length (n+3) (Ad v) (n+2) f g ((n+2:Nat):Int) (Ad (P++(U++Q))) (D:Int)=K ((val U/val v:Nat):Int) (Ad (P++(U'++Q))):=by
  intro D d1 d2 d3
  obtain⟨X',q1,q2,q3,q4⟩:=qu (R:=R) (N:=N) (P:=P) (Q:=Q) (U:=U) (v:=v) (n:=n+2) (D:=D) (f:=f) (g:=g) L hn hU hUl (by omega) (by omega) d1 T d2 d3 (n+2) 0 N U 0 (by omega) (by omega) hU hUl (fun _ _ _ _=>rfl) (by omega) (by simp[val])
  exact⟨X',q1,q2,q3,fun K=>by unfold Do Nj;exact q4 K⟩
 by_cases hz:val U/val v+1<4294967296
 ·obtain⟨U1,a1,a2,a3,a4⟩:=fin (val U/val v) hq (zE _) (by omega)
  obtain⟨U2,c1,c2,c3,c4⟩:=fin (val U/val v+1) hz (by omega) (zE _)
  have:U1=U2:=by
   have k:=(A7 a1).1;have C:=(A7 c1).1
   rw[a3]at k;rw[c3]at C;rw[k,C,a2,c2]
  subst this
  refine⟨U1,a1,a2,a3,fun K=>?_⟩
  obtain⟨D,d1,d2,d3,I⟩:=key K
  have:D=val U/val v\/D=val U/val v+1:=by
   generalize val U/val v=q at *;omega
  rcases this with rfl|rfl
  ·rw[I,a4 K]
  ·rw[I,c4 K]
 ·obtain⟨U1,a1,a2,a3,a4⟩:=fin (val U/val v) hq (zE _) (by omega)
  refine⟨U1,a1,a2,a3,fun K=>?_⟩
  obtain⟨D,d1,d2,d3,I⟩:=key K
  have:D=val U/val v:=by
   generalize val U/val v=q at *;omega
  subst this
  rw[I,a4 K]
def DE{l:List Nat}{d:Nat}(h:d<l.length):val (l.drop d)=l[d]+4294967296*val (l.drop (d+1)):=by rw[Aar h,val]
def jt{S:List Nat}{d v:Nat}(h:d<S.length):(S.set d v).drop d=v::S.drop (d+1):=by rw[Aar (by simpa using h),Aem,Aex (by omega)]
def SG{N:Nat}{a:List Nat}{t o:Bool}{b:Nat}(ha:Ag a)(D:0<b)(hb:b<4294967296)(G:fit a.length N):∀(c k:Nat)(S:List Nat)(r:Nat),c<k->c<=a.length->Ag S->S.length=a.length->r<b->val (S.drop c)*b+r=val (a.drop c) ->
  ∃ S' S2,Ag S'/\val S'=val a/b/\Ag S2/\val S2=val a%b/\∀ K:Nat->Nat->LA->LA->O R,C2 N K (Ad a) a.length t o (b:Int) k (r:Int) ((c:Int) - 1) (Ad S)=K (Al (val a/b)).length (Al (val a%b)).length (Ad S') (Ad S2)
| 0,k+1,S,r,_,_,hS,T,Y,I=>by
  have h1:=G.1
  rw[zy,zy]at I
  have hq:val a/b=val S:=by
   rw[<-I,zH,Ack D,zw Y,zg]
  have hm:val a%b=r:=by rw[<-I,zH,Adc,zf Y]
  obtain⟨S2,s1,s2,s3⟩:=Hn (R:=R) (N:=N) (v:=r) (by omega) (by omega)
  refine⟨S,S2,hS,hq.symm,s1,by rw[hm,s2],fun K=>?_⟩
  rw[C2];unfold Gm
  rw[show decide ((((0:Nat):Int) - 1)>=0)=false by simp,cf,Wd T.symm hS (by rw[T];exact G),s3,hq,hm]
| c+1,k+1,S,r,hfu,hc,hS,T,Y,I=>by
  have h1:=G.1;have h2:=G.2
  have C:c<a.length:=by omega
  have ac:=A0 ha C
  have hrB:r<4294967296:=by omega
  have hw:r*4294967296+a[c]<b*4294967296:=by
   have:(r+1)*4294967296<=b*4294967296:=zI _ Y
   rw[zS]at this;omega
  have hw2:r*4294967296+a[c]<18446744073709551616:=by omega
  obtain⟨w,L⟩:∃ w,r*4294967296+a[c]=w:=⟨_,rfl⟩
  rw[L]at hw hw2
  have hqB:w/b<4294967296:=Abq hw
  have hdm:=zx w b
  obtain⟨S',S2,q1,q2,q3,q4,q5⟩:=SG (t:=t) (o:=o) ha D hb G c k (S.set c (w/b)) (w%b) (by omega) (by omega) (Cc hS hqB c) (by simpa using T) (Aav _ D) (by
   rw[jt (by omega),val,DE C,zS,zL,<-I,zN,zH (w/b)]
   omega)
  refine⟨S',S2,q1,q2,q3,q4,fun K=>?_⟩
  rw[C2];unfold Gm
  rw[show(((c+1:Nat):Int) - 1)=(c:Int) by omega,show decide ((c:Int)>=0)=true by simp,ct,Aa C,ct,CB C,G3 (show b<18446744073709551616 by omega),a_ (by omega),cf,ct,hI (by omega),ct,cf,G3 (show a[c]<18446744073709551616 by omega),uS hrB ac,L,GW,DD,G3 (show w/b<18446744073709551616 by omega),oA hqB,IB,i64 (by omega)]
  exact q5 K
def ju{N:Nat}{a:List Nat}{n:Nat}{t o:Bool}{b:Nat}(D:n=a.length)(G:Ag a)(k:0<b)(I:b<4294967296)(C:fit a.length N):
  ∃ S' S2,Ag S'/\val S'=val a/b/\Ag S2/\val S2=val a%b/\∀ K:Nat->Nat->LA->LA->O R,Ft N (Ad a) n t o (b:Int) K=K (Al (val a/b)).length (Al (val a%b)).length (Ad S') (Ad S2):=by
 subst D
 have h1:=C.1;have h2:=C.2
 obtain⟨S',S2,L,T,Y,q4,q5⟩:=SG (R:=R) (t:=t) (o:=o) G k I C a.length N (replicate a.length 0) 0 (by omega) (zE _) (Cb _) (by simp) k (by rw[Aaa (by simp),Aaa (by simp)];simp[val])
 refine⟨S',S2,L,T,Y,q4,fun K=>?_⟩
 rw[Ph];unfold Jt
 rw[qL (by omega),ct,i64 (by omega),Cy]
 exact q5 K
def qw{x V s:Nat}(G:x<4294967296)(hs:s<=31):(x+4294967296*V)/2 ^ s=(x+4294967296*(V%4294967296))/2 ^ s%4294967296+4294967296*(V/2 ^ s):=by
 have k:0<2 ^ s:=Aah (by omega)
 have D:2 ^ s∣4294967296:=⟨2 ^ (32 - s),by rw[<-Aab,show s+(32 - s)=32 by omega]⟩
 have key:∀ W,(x+4294967296*W)/2 ^ s=(x+4294967296*(W%2 ^ s))/2 ^ s+4294967296*(W/2 ^ s):=by
  intro W
  have e:x+4294967296*W=x+4294967296*(W%2 ^ s)+2 ^ s*(4294967296*(W/2 ^ s)):=by
   have h:=zx W (2 ^ s)
   have:4294967296*W=4294967296*(2 ^ s*(W/2 ^ s)+W%2 ^ s):=by rw[h]
   rw[this,zN,Aa3];omega
  rw[e,Abh _ _ k]
 have C:(x+4294967296*(V%2 ^ s))/2 ^ s<4294967296:=by
  rw[Acz k]
  have:V%2 ^ s+1<=2 ^ s:=Aav _ k
  have:=zW 4294967296 this
  rw[zN]at this
  omega
 rw[key V,key (V%4294967296),Nat.mod_mod_of_dvd _ D,Adw,zf C]
def sY:∀{l:List Nat},Ag l->val l%4294967296=l.getD 0 0
|[],_=>rfl
|x::r,h=>by
  have:=(Cj.1 h).1
  simp[val];omega
def jv{N:Nat}{a:List Nat}{o:Bool}{s:Nat}(L:Ag a)(hs:s<=31)(T:fit a.length N):∀(m d k:Nat)(S:List Nat),d+m=a.length->m<k->Ag S->S.length=a.length->pL S d->val S+4294967296 ^ d*(val (a.drop d)/2 ^ s)=val a/2 ^ s ->
  ∃ S',Ag S'/\val S'=val a/2 ^ s/\∀ K:Nat->Bool->LA->O R,Ce N K o k (Ad a) a.length (s:Int) a.length (Ad a) a.length (a.length:Int) (d:Int) (Ad S)=K (Al (val a/2 ^ s)).length true (Ad S')
|0,d,k+1,S,hd,_,hS,Y,hz,G=>by
  have hd':d=a.length:=by omega
  subst hd'
  rw[List.drop_length]at G
  simp[val]at G
  refine⟨S,hS,G,fun K=>?_⟩
  rw[Ce];unfold Fx
  rw[Wc (zE _),cf,Wd Y.symm hS (by rw[Y];exact T),G]
| m+1,d,k+1,S,hd,hfu,hS,Y,hz,G=>by
  have h1:=T.1;have h2:=T.2
  have C:d<a.length:=by omega
  have ad:=A0 L C
  have step:=qw (V:=val (a.drop (d+1))) ad hs
  rw[sY (Xu L _),<-DE C]at step
  have hg:(a.drop (d+1)).getD 0 0=a.getD (d+1) 0:=by simp[zO,zk]
  rw[hg]at step
  have go:∀ w,(a[d]+4294967296*a.getD (d+1) 0)/2 ^ s=w->∃ S',Ag S'/\val S'=val a/2 ^ s/\∀ K:Nat->Bool->LA->O R,Ce N K o k (Ad a) a.length (s:Int) a.length (Ad a) a.length (a.length:Int) ((d+1:Nat):Int) (Ad (S.set d (w%4294967296)))=K (Al (val a/2 ^ s)).length true (Ad S'):=by
   intro w hw
   refine jv (o:=o) L hs T m (d+1) k (S.set d (w%4294967296)) (by omega) (by omega) (Cc hS (by omega) d) (by simpa using Y) (Ux hz) ?_
   rw[Qt hz (by omega),<-G,step,hw,zR,zN,zL];omega
  by_cases I:d+1<a.length
  ·have an:=A0 L I
   have D:a.getD (d+1) 0=a[d+1]:=by rw[zO,zD I];rfl
   rw[D]at go
   obtain⟨S',q1,q2,q3⟩:=go _ rfl
   refine⟨S',q1,q2,fun K=>?_⟩
   rw[Ce];unfold Fx
   have e:K5 .u64 ((a[d]:Nat):Int) (wrap .u64 (((a[d+1]:Nat):Int)*2 ^ 32))=((a[d]+4294967296*a[d+1]:Nat):Int):=by
    rw[show(2:Int) ^ 32=((2 ^ 32:Nat):Int) by rfl,ZY,G3 (by omega),lQ (by omega) (by omega),Afs,OB (by omega)]
    congr 1;omega
   rw[T6 C,ct,Aa C,ct,CB C,wS (by omega),T6 I,ct,Aa I,ct,CB I,show decide ((s:Int)<0)=false by simp,cf,ct,hI (by omega),ct,G3 (show a[d]<18446744073709551616 by omega),G3 (show a[d+1]<18446744073709551616 by omega),e,zG s,zZ (by omega),Lo,KD,IB]
   exact q3 K
  ·have D:a.getD (d+1) 0=0:=by rw[zO,zp (by omega)];rfl
   rw[D,Nat.mul_zero,zg]at go
   obtain⟨S',q1,q2,q3⟩:=go _ rfl
   refine⟨S',q1,q2,fun K=>?_⟩
   rw[Ce];unfold Fx
   rw[T6 C,ct,Aa C,ct,CB C,wS (by omega),Wc (by omega),cf,show decide ((s:Int)<0)=false by simp,cf,ct,hI (by omega),ct,G3 (show a[d]<18446744073709551616 by omega),zG s,zZ (by omega),Lo,KD,IB]
   exact q3 K
def qx{N:Nat}{a:List Nat}{n:Nat}{t o:Bool}{s:Nat}(G:n=a.length)(C:Ag a)(hs:s<=31)(k:fit a.length N):
  ∃ S',Ag S'/\val S'=val a/2 ^ s/\∀ K:Nat->Bool->LA->O R,Kh N (Ad a) n t o (s:Int) K=K (Al (val a/2 ^ s)).length true (Ad S'):=by
 have h1:=k.1;have h2:=k.2
 have la:=(A7 C).2
 have I:wrap .i64 (Int.tdiv (s:Int) 32)=((0:Nat):Int):=by
  rw[show(32:Int)=((32:Nat):Int) by rfl,GW,zw (by omega)];decide
 have e1:Int.tmod (s:Int) 32=(s:Int):=by rw[show(32:Int)=((32:Nat):Int) by rfl,DD,zf (by omega)]
 by_cases D:val a=0
 ·refine⟨[],Nc,by rw[D];simp[val],fun K=>?_⟩
  rw[Lw];unfold I4
  rw[show decide ((s:Int)<0)=false by simp,cf,Bi G C k,D,I,Nat.zero_div,C6];rfl
 ·obtain⟨S',T,L,Y⟩:=jv (R:=R) (o:=o) (a:=Al (val a)) (Ac _) hs (k.le la) (Al (val a)).length 0 N (replicate (Al (val a)).length 0) (by omega) (by omega) (Cb _) (by simp) (Ii _) (by rw[D3];simp)
  rw[Af]at L
  refine⟨S',T,L,fun K=>?_⟩
  rw[Lw];unfold I4
  have hne:(Al (val a)).length≠0:=fun h=>D (Bb.1 h)
  rw[show decide ((s:Int)<0)=false by simp,cf,Bi G C k,I,e1,show decide (((0:Nat):Int)>=(((Al (val a)).length:Nat):Int))=false by rw[decide_eq_false_iff_not];omega,cf]
  have c1:((decide ((0:Int)<=((0:Nat):Int)))&&((decide (((0:Nat):Int)<=(((Al (val a)).length:Nat):Int)))&&((decide ((((Al (val a)).length:Nat):Int)<=(((Al (val a)).length:Nat):Int)))&&(decide ((((Al (val a)).length:Nat):Int)<=(((Al (val a)).length:Nat):Int))))))=true:=by simp
  rw[c1,ct,zG,Nat.sub_zero,qL (by omega),ct,Adq,zy,zY,Nd,zd,Cy]
  have:=Y K
  rw[Af]at this
  exact this
def Y9{S:List Nat}{k:Nat}(h:val S<4294967296 ^ k):val (S.take k)=val S:=by
 by_cases G:k<=S.length
 ·have C:=Ky (S.take k) (S.drop k)
  rw[Abd,zT,zZ G]at C
  rcases z6 (val (S.drop k))with D|D
  ·rw[D]at C;simpa using C.symm
  ·have:=Acq (4294967296 ^ k) D
   omega
 ·rw[zF (by omega)]
def Za{S:List Nat}{n:Nat}(hS:Ag S)(h:S.length=n+1):val S<(S[n]+1)*4294967296 ^ n:=by
 have C:=W7 h
 have k:=Be (B7 hS n)
 rw[zT,zZ (by omega)]at k
 rw[zS,zH S[n]];omega
def ym{a b c:Nat}(k:a<=b)(C:b<=c):((decide ((0:Int)<=(a:Int)))&&((decide ((a:Int)<=(b:Int)))&&((decide ((b:Int)<=(c:Int)))&&(decide ((c:Int)<=(c:Int))))))=true:=by simp;omega
def dE{N:Nat}{v u0 Sv:List Nat}{n D s:Nat}(hn:v.length=n+2)(hv:Ag v)(hv1:2147483648<=v[n+1]'(by omega))(hSv:take ((n+2)*1) (Ad Sv)=Ad v)(hu:Ag u0)(hul:u0.length=D+(n+2))(hs:s<=31)(T:fit (D+n+4) N):
  ∀(j k c:Nat)(W q:List Nat),j<k->c+j=D->Ag W->W.length=u0.length->Ag q->q.length=D->W.take j=u0.take j->val (W.drop j)<val v->val (q.drop j)*val v+val (W.drop j)=val (u0.drop j) ->
  ∃ Sq Sr,Ag Sq/\val Sq=val u0/val v/\Ag Sr/\val Sr=val u0%val v/2 ^ s/\∀ K:Nat->Nat->LA->LA->O R,C7 N K (s:Int) (n+2) u0.length (Ad Sv) k D ((n+2:Nat):Int) (D:Int) (D:Int) (c:Int) (Ad q) (Ad W)=K (Al (val u0/val v)).length (Al (val u0%val v/2 ^ s)).length (Ad Sq) (Ad Sr)
|0,k+1,c,W,q,_,hc,hW,hWl,hq,I,Y,hr,G=>by
  have h1:=T.1;have h2:=T.2
  simp only[zy]at G hr
  have hv0:0<val v:=by omega
  have vlt:=Be hv
  rw[hn]at vlt
  have hq2:val u0/val v=val q:=by rw[<-G,zH,Ack hv0,zw hr,zg]
  have hm:val u0%val v=val W:=by rw[<-G,zH,Adc,zf hr]
  have ht:val (W.take (n+2))=val W:=Y9 (by omega)
  have htl:(W.take (n+2)).length=n+2:=by rw[zT];omega
  obtain⟨S',q1,q3,q4⟩:=qx (R:=R) (N:=N) (a:=W.take (n+2)) (n:=n+2) (t:=false) (o:=true) (s:=s) htl.symm (B7 hW _) hs (T.le (by rw[htl];omega))
  rw[ht,<-hm]at q3 q4
  refine⟨q,S',hq,hq2.symm,q1,q3,fun K=>?_⟩
  have hcD:c=D:=by omega
  subst hcD
  rw[C7];unfold Im
  rw[Wc (zE _),cf,tF (by omega),ct,zG,zY,Nd,q4,Wd I.symm hq (by rw[I];exact T.le (by omega)),<-hq2]
| j+1,k+1,c,W,q,hfu,hc,hW,hWl,hq,I,Y,hr,G=>by
  have h1:=T.1;have h2:=T.2
  have vlt:=Be hv
  rw[hn]at vlt
  have hjW:j<W.length:=by omega
  have hju:j<u0.length:=by omega
  have hjq:j<q.length:=by omega
  have hWj:W[j]=u0[j]:=by
   have:=congrArg (fun l=>l[j]?) Y
   simp only[Acj (show j<j+1 by omega),zD hjW,zD hju]at this
   exact Aej this
  have wj:=A0 hW hjW
  have eW:=DE hjW
  have eu:=DE hju
  have hUl:((W.drop j).take (n+3)).length=n+3:=by rw[zT,Ad8];omega
  have C:val (W.drop j)<val v*4294967296:=by rw[eW];omega
  have hB:val (W.drop j)<4294967296 ^ (n+3):=by
   have:=(Abi (show 0<4294967296 by omega)).2 vlt
   rw[<-zR]at this;exact Nat.lt_trans C this
  have hU:val ((W.drop j).take (n+3))=val (W.drop j):=Y9 hB
  have L:W=W.take j++((W.drop j).take (n+3)++(W.drop j).drop (n+3)):=by rw[Abd,Abd]
  have hPl:(W.take j).length=j:=by rw[zT];omega
  obtain⟨U',u1,u2,u3,u4⟩:=YW (R:=R) (N:=N) (P:=W.take j) (Q:=(W.drop j).drop (n+3)) (U:=(W.drop j).take (n+3)) (v:=v) (n:=n) (f:=false) (g:=true) hn hv (B7 (Xu hW _) _) hUl (by omega) (by omega) hv1 (by rw[hU];exact C)
  rw[hU]at u3 u4
  have hQ0:val ((W.drop j).drop (n+3))=0:=by
   have:=Ky ((W.drop j).take (n+3)) ((W.drop j).drop (n+3))
   rw[Abd,hU,hUl]at this
   have hp:0<4294967296 ^ (n+3):=Aah (by omega)
   rcases z6 (val ((W.drop j).drop (n+3)))with h|h
   ·exact h
   ·have:=Acq (4294967296 ^ (n+3)) h;omega
  have hv0:0<val v:=by omega
  have hqd:val (W.drop j)/val v<4294967296:=Abq C
  have hdm:=zx (val (W.drop j)) (val v)
  have hmd:=Aav (val (W.drop j)) hv0
  have hW':Ag (W.take j++(U'++(W.drop j).drop (n+3))):=KB.2 ⟨B7 hW _,KB.2 ⟨u1,Xu (Xu hW _) _⟩⟩
  have hWl':(W.take j++(U'++(W.drop j).drop (n+3))).length=u0.length:=by
   rw[zq,zq,hPl,u2,Ad8,Ad8];omega
  have hWd:(W.take j++(U'++(W.drop j).drop (n+3))).drop j=U'++(W.drop j).drop (n+3):=by
   rw[List.drop_append,hPl,Adp,zy,Aaa (by omega),Adb]
  have hWt:(W.take j++(U'++(W.drop j).drop (n+3))).take j=u0.take j:=by
   rw[List.take_append,hPl,Adp,List.take_zero,Abz,Aew,Nat.min_self]
   have:=congrArg (take j) Y
   rwa [Aew,Aew,zZ (by omega)]at this
  have hWv:val (U'++(W.drop j).drop (n+3))=val (W.drop j)%val v:=by rw[Ky,hQ0,u3];simp
  obtain⟨Sq,Sr,a1,a2,a3,a4,a5⟩:=dE (N:=N) hn hv hv1 hSv hu hul hs T j k (c+1) (W.take j++(U'++(W.drop j).drop (n+3))) (q.set j (val (W.drop j)/val v)) (by omega) (by omega) hW' hWl' (Cc hq hqd j) (by simpa using I) hWt (by rw[hWd,hWv];exact hmd) (by
   rw[hWd,hWv,jt hjq,val,eu,<-G,<-hWj,zS,zL,zN,zH (val (W.drop j)/val v)]
   omega)
  refine⟨Sq,Sr,a1,a2,a3,a4,fun K=>?_⟩
  have w0:wrap .i64 (wrap .i64 ((D:Int) - 1) - (c:Int))=(j:Int):=by
   rw[i64 (a:=(D:Int) - 1) (by omega),i64 (by omega)];omega
  have w1:wrap .i64 (wrap .i64 ((j:Int)+((n+2:Nat):Int))+1)=((j+(n+3):Nat):Int):=by
   rw[i64 (a:=(j:Int)+((n+2:Nat):Int)) (by omega),i64 (by omega)];omega
  have:=u4 fun z aa=>cond (Ab (j:Int) D) (cond ((beq 1 1)&&((ble ((0+((Int.toNat (j:Int))*1))+1) (List.length (Ad q)))&&(!false))) (C7 N K (s:Int) (n+2) u0.length (Ad Sv) k D ((n+2:Nat):Int) (D:Int) (D:Int) (wrap .i64 ((c:Int)+1)) (List.set (Ad q) (0+((Int.toNat (j:Int))*1)) (.int .u32 z)) aa) none) none
  rw[<-L,hPl]at this
  rw[C7];unfold Im
  rw[T6 (by omega),ct,w0,w1,ym (by omega) (by omega),ct,hSv,zG,zG,zY,zU,show j+(n+3) - j=n+3 by omega]
  rw[zG,zY,zU]at this
  rw[this,Aa (by omega),ct,show((beq 1 1)&&((ble (j+1) (List.length (Ad q)))&&(!false)))=true by(rw[Bk];simp;omega),ct,KC,wS (by omega)]
  exact a5 K
def o8{N:Nat}{a b:List Nat}{n m:Nat}{t o t' o':Bool}(hn:n=a.length)(hm:m=b.length)(ha:Ag a)(hb:Ag b)(Y:2<=b.length)(hlen:b.length<=a.length)(G:b.getLast (by intro h;rw[h]at Y;simp at Y)≠0)(hf:fit (a.length+b.length+4) N):
  ∃ Sq Sr,Ag Sq/\val Sq=val a/val b/\Ag Sr/\val Sr=val a%val b/\∀ K:Nat->Nat->LA->LA->O R,Ib N (Ad a) n t o (Ad b) m t' o' K=K (Al (val a/val b)).length (Al (val a%val b)).length (Ad Sq) (Ad Sr):=by
 subst hn hm
 have h1:=hf.1;have h2:=hf.2
 obtain⟨k,hk⟩:∃ k,b.length=k+2:=⟨b.length - 2,by omega⟩
 have hbl2:b[k+1]'(by omega)≠0:=by
  rw[Abv]at G
  simp only[hk]at G
  exact G
 have bk:=A0 hb (show k+1<b.length by omega)
 obtain⟨s,s1,s2,s3,s4⟩:=mt (R:=R) (N:=N) (c:=b[k+1]'(by omega)) (by omega) bk
 obtain⟨Sv,v1,v2,v3,v4⟩:=MT (R:=R) (N:=N) (a:=b) (t:=false) (o:=o') (s:=s) rfl hb s1 (hf.le (by omega))
 obtain⟨Su,p1,p2,p3,p4⟩:=MT (R:=R) (N:=N) (a:=a) (t:=false) (o:=o) (s:=s) rfl ha s1 (hf.le (by omega))
 have hp:0<2 ^ s:=Aah (by omega)
 have hP:0<4294967296 ^ (k+1):=Aah (by omega)
 have bt:=Za hb hk
 have bf:=W7 hk
 have hVlt:val b*2 ^ s<4294967296 ^ (k+2):=by
  have x1:val b*2 ^ s<(b[k+1]+1)*4294967296 ^ (k+1)*2 ^ s:=(Abi hp).2 bt
  have hd:2 ^ s∣4294967296:=⟨2 ^ (32 - s),by rw[<-Aab,show s+(32 - s)=32 by omega]⟩
  have x2:(b[k+1]+1)*2 ^ s<=4294967296:=by
   obtain⟨r,hr⟩:=hd
   have x3:b[k+1]<r:=by
    rw[hr,zH]at s3
    exact Abc s3
   have x4:(b[k+1]+1)*2 ^ s<=r*2 ^ s:=zI _ x3
   have x5:r*2 ^ s=4294967296:=by rw[zH];exact hr.symm
   omega
  have x6:=zI (4294967296 ^ (k+1)) x2
  rw[Acn]at x1
  rw[zR,zH _ 4294967296]
  exact zV x1 x6
 have hvl:(Sv.take (k+2)).length=k+2:=by rw[zT];omega
 have C:val (Sv.take (k+2))=val b*2 ^ s:=by rw[Y9 (by rw[v3];exact hVlt),v3]
 have I:2147483648*4294967296 ^ (k+1)<=val b*2 ^ s:=by
  have x1:4294967296 ^ (k+1)*b[k+1]<=val b:=by omega
  have x2:=zI (2 ^ s) x1
  rw[zL,zH (4294967296 ^ (k+1))]at x2
  have x3:=zI (4294967296 ^ (k+1)) s2
  omega
 have L:2147483648<=(Sv.take (k+2))[k+1]'(by omega):=by
  have x1:=Za (B7 v1 (k+2)) hvl
  rw[C]at x1
  have x2:=Ab9 (zl I x1)
  omega
 have hDl:Su.length=(a.length+1 - (k+2))+(k+2):=by omega
 have T:val (Su.drop (a.length+1 - (k+2)))<val (Sv.take (k+2)):=by
  have x1:=Ky (Su.take (a.length+1 - (k+2))) (Su.drop (a.length+1 - (k+2)))
  rw[Abd,p3,zT,zZ (by omega)]at x1
  have x2:=Be ha
  have x3:val a*2 ^ s<4294967296 ^ a.length*2 ^ s:=(Abi hp).2 x2
  have x4:a.length=(a.length+1 - (k+2))+(k+1):=by omega
  generalize hE:a.length+1 - (k+2)=E at *
  have x5:4294967296 ^ a.length=4294967296 ^ E*4294967296 ^ (k+1):=by rw[<-Aab];congr 1
  rw[x5,zL]at x3
  have x6:4294967296 ^ E*val (Su.drop E)<4294967296 ^ E*(4294967296 ^ (k+1)*2 ^ s):=by omega
  have x7:=Abc x6
  have x8:4294967296 ^ (k+1)*2 ^ s<=2147483648*4294967296 ^ (k+1):=by rw[zH];exact zI _ (gi s1)
  rw[C];omega
 obtain⟨Sq,Sr,a1,a2,a3,a4,a5⟩:=dE (R:=R) (N:=N) (v:=Sv.take (k+2)) (u0:=Su) (Sv:=Sv) (n:=k) (D:=a.length+1 - (k+2)) (s:=s) hvl (B7 v1 _) L (by rw[zY,Nd]) p1 hDl s1 (hf.le (by omega)) (a.length+1 - (k+2)) N 0 Su (replicate (a.length+1 - (k+2)) 0) (by omega) (by omega) p1 rfl (Cb _) (by simp) rfl T (by
  rw[Aaa (show(replicate (a.length+1 - (k+2)) 0).length<=a.length+1 - (k+2) by simp)];simp[val])
 have hq:val Su/val (Sv.take (k+2))=val a/val b:=by rw[p3,C,Nat.mul_div_mul_right _ _ hp]
 have hr:val Su%val (Sv.take (k+2))/2 ^ s=val a%val b:=by rw[p3,C,Nat.mul_mod_mul_right,Nat.mul_div_cancel _ hp]
 rw[hq]at a2;rw[hr]at a4
 refine⟨Sq,Sr,a1,a2,a3,a4,fun K=>?_⟩
 rw[T8];unfold Ly
 have w1:wrap .i64 ((b.length:Int) - 1)=((k+1:Nat):Int):=by rw[i64 (by omega)];omega
 have w2:wrap .i64 (((a.length+1:Nat):Int) - (b.length:Int))=((a.length+1 - (k+2):Nat):Int):=by rw[i64 (by omega)];omega
 rw[w1,Aa (by omega),ct,CB (by omega),s4,v4,tF (by omega),ct,p4,w2,qL (by omega),ct,zG,Cy]
 have:=a5 K
 rw[hq,hr,p2]at this
 rw[hk]
 exact this
def DF{N:Nat}{a b:List Nat}{n m:Nat}{t o t' o':Bool}(hn:n=a.length)(hm:m=b.length)(ha:Ag a)(hb:Ag b)(I:val b≠0)(D:fit (a.length+b.length+4) N):
  ∃ Sq Sr,Ag Sq/\val Sq=val a/val b/\Ag Sr/\val Sr=val a%val b/\∀ K:Nat->Nat->Bool->LA->LA->O R,Ej N (Ad a) n t o (Ad b) m t' o' K=K (Al (val a/val b)).length (Al (val a%val b)).length true (Ad Sq) (Ad Sr):=by
 have h1:=D.1;have h2:=D.2
 have la:=(A7 ha).2
 have lb:=(A7 hb).2
 have hbl:(Al (val b)).length≠0:=fun h=>I (Bb.1 h)
 have start:∀ K:Nat->Nat->Bool->LA->LA->O R,Ej N (Ad a) n t o (Ad b) m t' o' K=cond (decide (Fq (val a) (val b)<0)) (T0 N (Ad (Al (val a))) (Al (val a)).length false o fun s t=>K 0 s true [] t) (cond (decide ((((Al (val a)).length:Nat):Int)<=(2:Int))) (Lq N (Ad (Al (val a))) (Al (val a)).length false o fun p=>Lq N (Ad (Al (val b))) (Al (val b)).length false o' fun o=>cond (o==(0:Int)) none (Bn N (wrap .u64 (Int.tdiv p o)) fun u w=>cond (o==(0:Int)) none (Bn N (Int.tmod p o) fun x y=>K u x true w y))) (cond ((((Al (val b)).length:Nat):Int)==(1:Int)) (cond (Ab (0:Int) (Al (val b)).length) (Am .u32 (Ad (Al (val b))) fun z=>Ft N (Ad (Al (val a))) (Al (val a)).length false o z fun aa ab ac ad=>K aa ab true ac ad) none) (Ib N (Ad (Al (val a))) (Al (val a)).length false o (Ad (Al (val b))) (Al (val b)).length false o' fun ae af ag ah=>K ae af true ag ah))):=by
  intro K
  rw[GA];unfold ID
  rw[Bi hn ha (D.le (by omega)),Bi hm hb (D.le (by omega)),a_ hbl,cf,Lf rfl rfl (Ac _) (Ac _) (D.le (by omega)),Af,Af]
 by_cases k:val a<val b
 ·refine⟨[],Al (val a),Nc,by rw[zw k];rfl,Ac _,by rw[zf k,Af],fun K=>?_⟩
  rw[start,show decide (Fq (val a) (val b)<0)=true by(unfold Fq;rw[if_pos k];rfl),ct,EQ rfl (Ac _) (D.le (by omega)),Af,zw k,zf k,C6];rfl
 ·have C:decide (Fq (val a) (val b)<0)=false:=by unfold Fq;rw[if_neg k];split<;>rfl
  have L:=Bf (Aa7 k)
  by_cases G:(Al (val a)).length<=2
  ·have av:=MR G
   have bv:=MR (Aal L G)
   have T:val a/val b<18446744073709551616:=zl (Aaw _ _) av
   have r64:val a%val b<18446744073709551616:=zl (Nat.mod_le _ _) av
   obtain⟨Sq,a1,a2,a3⟩:=Hn (R:=R) (N:=N) T (by omega)
   obtain⟨Sr,b1,b2,b3⟩:=Hn (R:=R) (N:=N) r64 (by omega)
   refine⟨Sq,Sr,a1,a2,b1,b2,fun K=>?_⟩
   rw[start,C,cf,show decide ((((Al (val a)).length:Nat):Int)<=2)=true by simp;omega,ct,W6 rfl (Ac _) G (by omega),W6 rfl (Ac _) (by omega) (by omega),Af,Af,a_ I,cf,GW,G3 T,a3,cf,DD,b3]
  ·have Y:decide ((((Al (val a)).length:Nat):Int)<=2)=false:=by simp;omega
   by_cases hb1:(Al (val b)).length=1
   ·obtain⟨x,hx⟩:∃ x,Al (val b)=[x]:=by
     match h:Al (val b),hb1 with
     |[x],_=>exact⟨x,rfl⟩
    have hxv:x=val b:=by have:=Af (val b);rw[hx]at this;simpa[val]using this
    have xl:x<4294967296:=by have:=Ac (val b);rw[hx]at this;exact(Cj.1 this).1
    obtain⟨Sq,Sr,a1,a2,a3,a4,a5⟩:=ju (R:=R) (N:=N) (a:=Al (val a)) (t:=false) (o:=o) (b:=x) rfl (Ac _) (by omega) xl (D.le (by omega))
    rw[Af,hxv]at a2 a4 a5
    refine⟨Sq,Sr,a1,a2,a3,a4,fun K=>?_⟩
    rw[start,C,cf,Y,cf,hx]
    simp only[z8,Ada,Q9,Az]
    rw[show(((0+1:Nat):Int)==1)=true by rfl,ct,show Ab 0 (0+1)=true by decide,ct,hxv,a5]
   ·obtain⟨Sq,Sr,a1,a2,a3,a4,a5⟩:=o8 (R:=R) (N:=N) (a:=Al (val a)) (b:=Al (val b)) (t:=false) (o:=o) (t':=false) (o':=o') rfl rfl (Ac _) (Ac _) (by omega) L (WG _ _) (D.le (by omega))
    rw[Af,Af]at a2 a4 a5
    refine⟨Sq,Sr,a1,a2,a3,a4,fun K=>?_⟩
    rw[start,C,cf,Y,cf,show((((Al (val b)).length:Nat):Int)==1)=false by rw[beq_eq_false_iff_ne];omega,cf,a5]
def xG (A B u0 u1 v0 v1:Nat) (e:Bool):Prop:=v0=0\/(1<=u1/\1<=v1/\match e with
|true=>v0*B<=u0*A/\u1*A<=v1*B/\(v0+v1)*B<=(u0+u1)*A/\u0*v1=v0*u1+1
| false=>u0*A<=v0*B/\v1*B<=u1*A/\(u0+u1)*A<=(v0+v1)*B/\u1*v0=v1*u0+1)
structure Lead(X Y x y u1 u2 v1 v2:Nat)(e:Bool):Prop where
 le:y<=x
 idV:x*v2+y*v1=X
 idU:x*u2+y*u1=Y
 pos:1<=v2
 par:match e with
  |false=>x+v1*Y=u1*X/\y+u2*X=v2*Y/\u1*v2=v1*u2+1
  |true=>x+u1*X=v1*Y/\y+v2*Y=u2*X/\u2*v1=v2*u1+1
 small:(v1=0/\u1=1/\u2=0/\v2=1/\e=false)\/(1<=v1/\u1<=v1/\u2<=v2/\1<=u2)
def Lead.init{X Y:Nat}(h:Y<=X):Lead X Y X Y 1 0 0 1 false:=⟨h,by simp,by simp,by omega,by simp,.inl ⟨rfl,rfl,rfl,rfl,rfl⟩⟩
def Lead.step{X Y x y u1 u2 v1 v2:Nat}{e:Bool}(L:Lead X Y x y u1 u2 v1 v2 e)(hy:1<=y):Lead X Y y (x%y) u2 (u1+x/y*u2) v2 (v1+x/y*v2) (!e):=by
 have k:=zx x y
 have T:=Aav x (show 0<y by omega)
 have hq:1<=x/y:=by rw[Ab1 (by omega)];have:=L.le;omega
 generalize x/y=q at *
 generalize x%y=r at *
 have C:=L.pos
 refine⟨by omega,?_,?_,?_,?_,?_⟩
 ·rw[<-L.idV,<-k,zN,zS,zL];omega
 ·rw[<-L.idU,<-k,zN,zS,zL];omega
 ·have:=Aa4 hq C;omega
 ·have p:=L.par
  cases e with
  | false =>
   obtain⟨p1,p2,G⟩:=p
   refine⟨p2,?_,?_⟩
   ·have e1:q*(y+u2*X)=q*(v2*Y):=by rw[p2]
    rw[zN,<-zL,<-zL]at e1
    rw[zH y q]at k
    rw[zS,zS];omega
   ·rw[zS,zS,Acn q u2,G];omega
  | true =>
   obtain⟨p1,p2,G⟩:=p
   refine⟨p2,?_,?_⟩
   ·have e1:q*(y+v2*Y)=q*(u2*X):=by rw[p2]
    rw[zN,<-zL,<-zL]at e1
    rw[zH y q]at k
    rw[zS,zS];omega
   ·rw[zN,zN,G,Aa3 u2 q,Aa3 v2 q,zH u2 v2];omega
 ·right
  rcases L.small with⟨s1,s2,D,I,_⟩|⟨s1,s2,D,I⟩
  ·subst s1 s2 D I;exact⟨by omega,by omega,by omega,by omega⟩
  ·have h1:q*u2<=q*v2:=zW _ D
   exact⟨C,D,by omega,by have:=Aa4 hq I;omega⟩
def Lead.cof{X Y x y u1 u2 v1 v2 A B P:Nat}{e:Bool}(L:Lead X Y x y u1 u2 v1 v2 e)(hA:X*P<=A)(hA':A<(X+1)*P)(hB:Y*P<=B)(hB':B<(Y+1)*P)(c1:v2<=y)(C:v1+v2<=x - y):xG A B u1 u2 v1 v2 (!e):=by
 have p:=L.par
 have D:=L.le
 rcases L.small with⟨s1,_⟩|⟨s1,s2,I,G⟩
 ·exact .inl s1
 ·refine .inr ⟨G,L.pos,?_⟩
  cases e with
  |false =>
   obtain⟨p1,p2,k⟩:=p
   have n1:u2*A<=v2*B:=Tu hB hA' (w:=y) (by omega) (by omega)
   have n2:(v1+v2)*B<=(u1+u2)*A:=Tu hA hB' (w:=x - y) (by rw[zS,zS];omega) C
   refine⟨?_,n1,n2,k⟩
   rw[zS,zS]at n2;omega
  |true =>
   obtain⟨p1,p2,k⟩:=p
   have n1:v2*B<=u2*A:=Tu hA hB' (w:=y) (by omega) (by omega)
   have n2:(u1+u2)*A<=(v1+v2)*B:=Tu hB hA' (w:=x - y) (by rw[zS,zS];omega) (by omega)
   refine⟨?_,n1,n2,k⟩
   rw[zS,zS]at n2;omega
def DG{x y:Nat}(C:1<=y)(h:y<=x):2*(y*(x%y))<=x*y:=by
 have D:=zx x y
 have G:=Aav x (show 0<y by omega)
 have hq:1<=x/y:=by rw[Ab1 (by omega)];omega
 have I:y*1<=y*(x/y):=zW _ hq
 have k:2*(x%y)<=x:=by omega
 have:=zW y k
 rw[zH x y,Aa3];exact this
def mw(u0 u1 v0 v1:Nat)(e:Bool):LA:=[.int .u64 (u0:Int),.int .u64 (u1:Int),.int .u64 (v0:Int),.int .u64 (v1:Int),.bool e]
def o9{N:Nat}{X Y A B P:Nat}(hX:X<18446744073709551616)(hYX:Y<=X)(hA:X*P<=A)(hA':A<(X+1)*P)(hB:Y*P<=B)(hB':B<(Y+1)*P):∀(k D x y u0 u1 u2 v0 v1 v2:Nat)(e:Bool),k<D->x*y<2 ^ k->Lead X Y x y u1 u2 v1 v2 e->xG A B u0 u1 v0 v1 e->u0<18446744073709551616->u1<18446744073709551616->v0<18446744073709551616->v1<18446744073709551616 ->
  ∃(a1 a2 b1 b2:Nat)(e':Bool),xG A B a1 a2 b1 b2 e'/\a1<18446744073709551616/\a2<18446744073709551616/\b1<18446744073709551616/\b2<18446744073709551616/\∀ K:LA->O R,Dd N K D (x:Int) (y:Int) (u0:Int) (u1:Int) (u2:Int) (v0:Int) (v1:Int) (v2:Int) e=K (mw a1 a2 b1 b2 e'):=by
 intro k
 induction k with
| zero =>
  intro D x y u0 u1 u2 v0 v1 v2 e hf I L C b1 b2 b3 b4
  obtain⟨D,rfl⟩:∃ F,D=F+1:=⟨D - 1,by omega⟩
  have hy:y=0:=by
   rcases z6 y with h|h
   ·exact h
   ·have h3:=zW x (show 1<=y by omega)
    have h4:=L.le
    rw[Acx]at I
    omega
  refine⟨u0,u1,v0,v1,e,C,b1,b2,b3,b4,fun K=>?_⟩
  rw[Dd];unfold Gt
  have:=L.pos
  rw[show decide ((y:Int)>=(v2:Int))=false by simp;omega];rfl
| succ k ih =>
  intro D x y u0 u1 u2 v0 v1 v2 e hf I L C b1 b2 b3 b4
  obtain⟨D,rfl⟩:∃ F,D=F+1:=⟨D - 1,by omega⟩
  have hv2:=L.pos
  have T:=L.le
  by_cases c1:v2<=y
  ·have hy:1<=y:=by omega
   have hxX:x<=X:=by
    have:=zW x hv2
    have:=L.idV;omega
   have hsum:v1+v2<=X:=by
    have h1:=zI v2 (show 1<=x by omega)
    have h2:=zI v1 hy
    have:=L.idV;omega
   by_cases c2:v1+v2<=x - y
   ·have L':=L.step hy
    have C':=L.cof hA hA' hB hB' c1 c2
    have i1:=L'.idV
    have i2:=L'.idU
    have w1:v1+x/y*v2<=X:=by
     have:=zI (v1+x/y*v2) hy;omega
    have w2:u1+x/y*u2<=Y:=by
     have:=zI (u1+x/y*u2) hy;omega
    have hu2:u2<18446744073709551616:=by
     have h1:=zI u2 (show 1<=x by omega)
     have:=L.idU;omega
    have hv2':v2<18446744073709551616:=by omega
    have hlt:y*(x%y)<2 ^ k:=by
     have:=DG hy T
     rw[zR]at I;omega
    obtain⟨a1,a2,d1,d2,e',r1,r2,r3,r4,r5,r6⟩:=ih D y (x%y) u1 u2 (u1+x/y*u2) v1 v2 (v1+x/y*v2) (!e) (by omega) hlt L' C' b2 hu2 b4 hv2'
    refine⟨a1,a2,d1,d2,e',r1,r2,r3,r4,r5,fun K=>?_⟩
    rw[Dd];unfold Gt
    have G:x<18446744073709551616:=by omega
    have hdiv:x/y<18446744073709551616:=zl (Aaw _ _) G
    rw[show decide ((y:Int)>=(v2:Int))=true by simp;omega,show((true:Bool)==true)=true by rfl,ct,OA G T,AL,G3 (show v1+v2<18446744073709551616 by omega),show decide (((x - y:Nat):Int)>=((v1+v2:Nat):Int))=true by rw[decide_eq_true_eq];omega,jT,ct]
    unfold N6
    rw[a_ (by omega),cf,cf,GW,DD,G3 hdiv,ZY,ZY,G3 (show x/y*u2<18446744073709551616 by omega),G3 (show x/y*v2<18446744073709551616 by omega),AL,AL,G3 (show u1+x/y*u2<18446744073709551616 by omega),G3 (show v1+x/y*v2<18446744073709551616 by omega)]
    exact r6 K
   ·refine⟨u0,u1,v0,v1,e,C,b1,b2,b3,b4,fun K=>?_⟩
    rw[Dd];unfold Gt
    rw[show decide ((y:Int)>=(v2:Int))=true by simp;omega,show((true:Bool)==true)=true by rfl,ct,OA (by omega) T,AL,G3 (show v1+v2<18446744073709551616 by omega),show decide (((x - y:Nat):Int)>=((v1+v2:Nat):Int))=false by rw[decide_eq_false_iff_not];omega,jT,cf]
    rfl
  ·refine⟨u0,u1,v0,v1,e,C,b1,b2,b3,b4,fun K=>?_⟩
   rw[Dd];unfold Gt
   rw[show decide ((y:Int)>=(v2:Int))=false by simp;omega];rfl
def PR{N:Nat}{a:List Nat}{n:Nat}{t o:Bool}{i:Nat}{K:Int->O R}(k:n=a.length)(C:Ag a):H9 N (i:Int) (Ad a) n t o K=K ((a.getD i 0:Nat):Int):=by
 subst k
 rw[T2];unfold R8
 by_cases h:i<a.length
 ·have:=A0 C h
  rw[T6 h,ct,Aa h,ct,CB h,G3 (by omega),zO,zD h];rfl
 ·rw[Wc (by omega),cf,zO,zp (by omega)];rfl
def Rg{a:List Nat}(k:Ag a)(i:Nat):a.getD i 0<4294967296:=by
 by_cases h:i<a.length
 ·rw[zO,zD h];exact A0 k h
 ·rw[zO,zp (by omega)];simp
def qy{a:List Nat}{n:Nat}(G:a.length<=n+3):val a=val (a.take n)+4294967296 ^ n*((a.getD (n+2) 0*4294967296+a.getD (n+1) 0)*4294967296+a.getD n 0):=by
 have k:=Lg a (n+2)
 have C:=Lg a (n+1)
 have D:=Lg a n
 rw[zF (by omega)]at k
 have x1:4294967296 ^ (n+2)*a.getD (n+2) 0=4294967296 ^ n*(a.getD (n+2) 0*4294967296*4294967296):=by rw[zR (n:=4294967296) (m:=n+1),zR,vP,vP]
 have x2:4294967296 ^ (n+1)*a.getD (n+1) 0=4294967296 ^ n*(a.getD (n+1) 0*4294967296):=by rw[zR,vP]
 rw[k,C,D,x1,x2,zS,zN,zN];omega
def SH{N:Nat}{a:List Nat}{m n s:Nat}{t o:Bool}{K:Int->O R}(L:m=a.length)(D:Ag a)(hl:a.length<=n+3)(hs:s<=31)(C:a.getD (n+2) 0*2 ^ s<4294967296)(hn:n<=1000000000000):
  V9 N (Ad a) m t o ((n+3:Nat):Int) (s:Int) K=K ((val a/(4294967296 ^ n*2 ^ (32 - s)):Nat):Int)/\val a/(4294967296 ^ n*2 ^ (32 - s))<18446744073709551616:=by
 have hp:0<2 ^ s:=Aah (by omega)
 have G:0<2 ^ (32 - s):=Aah (by omega)
 have hP:0<4294967296 ^ n:=Aah (by omega)
 have k:2 ^ s*2 ^ (32 - s)=4294967296:=by rw[<-Aab,show s+(32 - s)=32 by omega]
 have b0:=Rg D (n+2)
 have b1:=Rg D (n+1)
 have b2:=Rg D n
 have tk:=Be (B7 D n)
 have bA:val (a.take n)<4294967296 ^ n:=by
  refine zV tk (zh (by omega) ?_)
  rw[zT];omega
 have hv:=qy hl
 generalize T:a.getD (n+2) 0=a0 at *
 generalize Y:a.getD (n+1) 0=a1 at *
 generalize ha2:a.getD n 0=a2 at *
 have hd0:a0<2 ^ (32 - s):=by
  rw[<-k,zH]at C;exact Abc C
 have I:(a0*4294967296+a1)*2 ^ s<18446744073709551616:=by
  have x1:(a0+1)*4294967296<=2 ^ (32 - s)*4294967296:=zI _ hd0
  have x2:a0*4294967296+a1<2 ^ (32 - s)*4294967296:=by rw[zS]at x1;omega
  have x3:=(Abi hp).2 x2
  rw[Acn,zH (2 ^ (32 - s)),k]at x3
  exact x3
 have hsh:a2/2 ^ (32 - s)<2 ^ s:=by
  rw[Acz G,k];exact b2
 have hq:val a/(4294967296 ^ n*2 ^ (32 - s))=(a0*4294967296+a1)*2 ^ s+a2/2 ^ (32 - s):=by
  rw[<-Acw,hv,Abh _ _ hP,zw bA,zU]
  have:(a0*4294967296+a1)*4294967296+a2=a2+2 ^ (32 - s)*((a0*4294967296+a1)*2 ^ s):=by
   rw[Aa3,zH (2 ^ (32 - s)),k];omega
  rw[this,Abh _ _ G];omega
 have hb:(a0*4294967296+a1)*2 ^ s+a2/2 ^ (32 - s)<18446744073709551616:=by
  have hdv:2 ^ s*2 ^ (64 - s)=18446744073709551616:=by rw[<-Aab,show s+(64 - s)=64 by omega]
  obtain⟨r,hr⟩:∃ r,18446744073709551616=2 ^ s*r:=⟨2 ^ (64 - s),hdv.symm⟩
  rw[hr,zH]at I
  have x1:=Abc I
  have x2:(a0*4294967296+a1+1)*2 ^ s<=r*2 ^ s:=zI _ x1
  rw[zS,zH r,<-hr]at x2
  omega
 rw[hq]
 refine⟨?_,hb⟩
 rw[FW];unfold HW
 have w1:wrap .i64 (((n+3:Nat):Int) - 1)=((n+2:Nat):Int):=by rw[i64 (by omega)];omega
 have w2:wrap .i64 (((n+3:Nat):Int) - 2)=((n+1:Nat):Int):=by rw[i64 (by omega)];omega
 have w3:wrap .i64 (((n+3:Nat):Int) - 3)=(n:Int):=by rw[i64 (by omega)];omega
 have w4:wrap .i64 ((32:Int) - (s:Int))=((32 - s:Nat):Int):=by rw[i64 (by omega)];omega
 rw[w1,w2,w3,w4,PR L D,PR L D,show decide ((s:Int)<0)=false by simp,cf,PR L D,show decide (((32 - s:Nat):Int)<0)=false by simp,cf]
 rw[T,Y,ha2,uS b0 b1,zG,zG,zZ (by omega),zZ (by omega),Lo,show(2:Int) ^ s=((2 ^ s:Nat):Int) by simp,ZY,G3 I,lQ I (by omega),OB hsh]
def sZ{k N:Nat}(h:fit k N):1000<=N:=by have:=h.1;omega
def gj{N:Nat}{a b:List Nat}{n m:Nat}{t o t' o':Bool}(hn:n=a.length)(hm:m=b.length)(T:Ag a)(hb:Ag b)(I:3<=a.length)(D:a.getLast (by intro h;rw[h]at I;simp at I)≠0)(hlb:b.length<=a.length)(hle:val b<=val a)(hf:fit a.length N):
  ∃(a1 a2 b1 b2:Nat)(e:Bool),xG (val a) (val b) a1 a2 b1 b2 e/\a1<18446744073709551616/\a2<18446744073709551616/\b1<18446744073709551616/\b2<18446744073709551616/\∀ K:LA->O R,R9 N (Ad a) n t o (Ad b) m t' o' K=K (mw a1 a2 b1 b2 e):=by
 subst hn hm
 have h1:=hf.1;have h2:=hf.2
 obtain⟨k,hk⟩:∃ k,a.length=k+3:=⟨a.length - 3,by omega⟩
 have hla2:a[k+2]'(by omega)≠0:=by
  rw[Abv]at D
  simp only[hk]at D
  exact D
 have ak:=A0 T (show k+2<a.length by omega)
 obtain⟨s,s1,s2,s3,s4⟩:=mt (R:=R) (N:=N) (c:=a[k+2]'(by omega)) (by omega) ak
 have hag:a.getD (k+2) 0=a[k+2]'(by omega):=by rw[zO,zD (by omega)];rfl
 have G:b.getD (k+2) 0<=a[k+2]'(by omega):=by
  apply Aa7;intro C
  have L:k+2<b.length:=by
   apply Ac4;intro hge
   rw[zO,zp hge]at C;simp at C
  have hbg:b.getD (k+2) 0=b[k+2]:=by rw[zO,zD L];rfl
  rw[hbg]at C
  have x1:=Za T (n:=k+2) (by omega)
  have x2:=lp L
  have x3:(a[k+2]+1)*4294967296 ^ (k+2)<=b[k+2]*4294967296 ^ (k+2):=zI _ C
  rw[zH]at x2
  omega
 have hbt:b.getD (k+2) 0*2 ^ s<4294967296:=zl (zI _ G) s3
 have hPP:0<4294967296 ^ k*2 ^ (32 - s):=Ad1 (Aah (by omega)) (Aah (by omega))
 have wa:=fun K=>SH (R:=R) (N:=N) (a:=a) (m:=a.length) (n:=k) (s:=s) (t:=false) (o:=o) (K:=K) rfl T (by omega) s1 (by rw[hag];exact s3) (by omega)
 have wb:=fun K=>SH (R:=R) (N:=N) (a:=b) (m:=b.length) (n:=k) (s:=s) (t:=false) (o:=o') (K:=K) rfl hb (by omega) s1 hbt (by omega)
 have hX:=(wa fun _=>none).2
 generalize hP:4294967296 ^ k*2 ^ (32 - s)=P at *
 have hYX:val b/P<=val a/P:=Nat.div_le_div_right hle
 have q1:∀ z,z/P*P<=z:=fun z=>Nat.div_mul_le_self z P
 have q2:∀ z,z<(z/P+1)*P:=fun z=>by
  have:=zx z P;have:=Aav z hPP
  rw[zS,zH];omega
 obtain⟨a1,a2,b1,b2,e,r1,r2,r3,r4,r5,r6⟩:=o9 (R:=R) (N:=N) (X:=val a/P) (Y:=val b/P) (A:=val a) (B:=val b) (P:=P) hX hYX (q1 _) (q2 _) (q1 _) (q2 _) 128 N (val a/P) (val b/P) 0 1 0 0 0 1 false (by omega) (by
  have:=Aac hX (zl hYX hX)
  exact this) (Lead.init hYX) (.inl rfl) (by omega) (by omega) (by omega) (by omega)
 refine⟨a1,a2,b1,b2,e,r1,r2,r3,r4,r5,fun K=>?_⟩
 rw[B'];unfold T3
 have w1:wrap .i64 ((a.length:Int) - 1)=((k+2:Nat):Int):=by rw[i64 (by omega)];omega
 rw[w1,Aa (by omega),ct,CB (by omega),s4,show(a.length:Int)=((k+3:Nat):Int) by rw[hk],(wa _).1,(wb _).1]
 exact r6 K
def Qu{N:Nat}{a b:List Nat}{n m:Nat}{x y:Nat}{t o t' o':Bool}(hn:n=a.length)(hm:m=b.length)(I:Ag a)(L:Ag b)(C:x<18446744073709551616)(D:y<18446744073709551616)(G:val b*y<=val a*x)(k:fit (a.length+b.length+4) N):
  ∃ S,Ag S/\val S=val a*x - val b*y/\∀ K:Nat->LA->O R,Fk N (Ad a) n t o (x:Int) (Ad b) m t' o' (y:Int) K=K (Al (val a*x - val b*y)).length (Ad S):=by
 subst hn hm
 have h1:=k.1;have h2:=k.2
 obtain⟨Sx,x1,x2,x3⟩:=Hn (R:=R) (N:=N) C (by omega)
 obtain⟨Sy,y1,y2,y3⟩:=Hn (R:=R) (N:=N) D (by omega)
 have lx:=Y8 C
 have ly:=Y8 D
 obtain⟨P1,p1,p2,T⟩:=DC (R:=R) (N:=N) (a:=a) (b:=Al x) (t:=false) (o:=o) (t':=false) (o':=true) rfl rfl I (Ac _) (k.le (by omega))
 obtain⟨P2,q1,Y,q3⟩:=DC (R:=R) (N:=N) (a:=b) (b:=Al y) (t:=false) (o:=o') (t':=false) (o':=true) rfl rfl L (Ac _) (k.le (by omega))
 rw[Af]at p2 T Y q3
 have l1:(Al (val a*x)).length<=a.length+2:=Iy (by
  have:=Aac (Be I) C
  rw[Aab];exact this)
 have l2:(Al (val b*y)).length<=b.length+2:=Iy (by
  have:=Aac (Be L) D
  rw[Aab];exact this)
 obtain⟨S,s1,s2,s3⟩:=YU (R:=R) (N:=N) (a:=Al (val a*x)) (b:=Al (val b*y)) (t:=false) (o:=true) (t':=false) (o':=true) rfl rfl (Ac _) (Ac _) (k.le (by omega)) (by rw[Af,Af];exact G)
 rw[Af,Af]at s2 s3
 refine⟨S,s1,s2,fun K=>?_⟩
 rw[CF];unfold CE
 have tx:take ((Al x).length*1) (Ad Sx)=Ad (Al x):=by rw[<-x2,Ia x1]
 have ty:take ((Al y).length*1) (Ad Sy)=Ad (Al y):=by rw[<-y2,Ia y1]
 have t1:take ((Al (val a*x)).length*1) (Ad P1)=Ad (Al (val a*x)):=by rw[<-p2,Ia p1]
 have t2:take ((Al (val b*y)).length*1) (Ad P2)=Ad (Al (val b*y)):=by rw[<-Y,Ia q1]
 rw[x3,tx,T,y3,ty,q3,t1,t2,s3]
def o_{N:Nat}(hN:4<=N):∀(k C x y:Nat),k<C->x*y<2 ^ k->y<=x->x<18446744073709551616->∃ S,Ag S/\val S=Nat.gcd x y/\∀(G:LA->Nat->Bool->LA->Nat->Bool->O R)(K:Nat->LA->O R),K7 N G K C (x:Int) (y:Int)=K (Al (Nat.gcd x y)).length (Ad S):=by
 have base:∀(C x:Nat),x<18446744073709551616->∃ S,Ag S/\val S=Nat.gcd x 0/\∀(G:LA->Nat->Bool->LA->Nat->Bool->O R)(K:Nat->LA->O R),K7 N G K (C+1) (x:Int) ((0:Nat):Int)=K (Al (Nat.gcd x 0)).length (Ad S):=by
  intro C x I
  obtain⟨S,s1,s2,T⟩:=Hn (R:=R) (N:=N) I hN
  refine⟨S,s1,by rw[s2,Aa6],fun G K=>?_⟩
  rw[K7];unfold X6
  rw[show(((0:Nat):Int) != 0)=false by rfl,cf,T,Aa6]
 intro k
 induction k with
| zero =>
  intro C x y Y D L I
  obtain⟨C,rfl⟩:∃ F,C=F+1:=⟨C - 1,by omega⟩
  have hy:y=0:=by
   rcases z6 y with h|h
   ·exact h
   ·have h3:=zW x (show 1<=y by omega)
    rw[Acx]at D;omega
  subst hy
  exact base C x I
| succ k ih =>
  intro C x y Y D L I
  obtain⟨C,rfl⟩:∃ F,C=F+1:=⟨C - 1,by omega⟩
  rcases z6 y with h|h
  ·subst h;exact base C x I
  ·have hh:=DG (show 1<=y by omega) L
   have hm:=Aav x h
   obtain⟨S,s1,s2,T⟩:=ih C y (x%y) (by omega) (by rw[zR]at D;omega) (by omega) (by omega)
   have hg:Nat.gcd y (x%y)=Nat.gcd x y:=by rw[Aak,<-Ad0,Aak]
   rw[hg]at s2 T
   refine⟨S,s1,s2,fun G K=>?_⟩
   rw[K7];unfold X6
   rw[show((y:Int) != 0)=true by rw[bne_iff_ne];omega,ct,a_ (by omega),cf,DD]
   exact T G K
def dF{a b u v s t x y:Nat}(C:x+v*b=u*a)(D:y+s*a=t*b)(k:u*t=v*s+1):t*x+v*y=a/\s*x+u*y=b:=by
 constructor
 ·have G:t*x+t*v*b=t*u*a:=by rw[zL,zL,<-zN,C]
  have I:v*y+v*s*a=v*t*b:=by rw[zL,zL,<-zN,D]
  have L:t*u*a=v*s*a+a:=by rw[zH t u,k,zS,Ad2]
  have T:t*v*b=v*t*b:=by rw[zH t v]
  omega
 ·have G:s*x+s*v*b=s*u*a:=by rw[zL,zL,<-zN,C]
  have I:u*y+u*s*a=u*t*b:=by rw[zL,zL,<-zN,D]
  have L:u*t*b=v*s*b+b:=by rw[k,zS,Ad2]
  have T:s*u*a=u*s*a:=by rw[zH s u]
  have Y:s*v*b=v*s*b:=by rw[zH s v]
  omega
def dG{A B a b p q r s:Nat}(hA:p*a+q*b=A)(hB:r*a+s*b=B)(k:1<=p)(hq:1<=q)(C:1<=r)(D:b<=a):2*(a*b)<=A*B/\a<=A:=by
 have L:=zI a k
 have T:=zI b hq
 have Y:=zI a C
 have G:2*b<=A:=by omega
 have I:a<=B:=by omega
 have:=Aa4 G I
 refine⟨?_,by omega⟩
 rw[zH a b,<-zL];exact this
def uW{u0 u1 v0 v1:Nat}{e:Bool}:setCells [.int .u64 0,.int .u64 0,.int .u64 0,.int .u64 0,.bool false] 0 (mw u0 u1 v0 v1 e)=mw u0 u1 v0 v1 e:=rfl
def jw{N:Nat}:∀(k C A B:Nat)(d f:Bool),k<C->A*B<2 ^ k->B<=A->fit (2*(Al A).length+4) N->∃ S,Ag S/\val S=Nat.gcd A B/\∀ K:Nat->LA->O R,Dz N K C (Ad (Al A)) (Al A).length d (Ad (Al B)) (Al B).length f=K (Al (Nat.gcd A B)).length (Ad S):=by
 have base:∀(C A:Nat)(d f:Bool),fit (2*(Al A).length+4) N->∃ S,Ag S/\val S=Nat.gcd A 0/\∀ K:Nat->LA->O R,Dz N K (C+1) (Ad (Al A)) (Al A).length d (Ad (Al 0)) (Al 0).length f=K (Al (Nat.gcd A 0)).length (Ad S):=by
  intro C A d f D
  refine⟨Al A,Ac _,by rw[Af,Aa6],fun K=>?_⟩
  rw[Dz];unfold Sd
  rw[C6,show decide (((([]:List Nat).length:Nat):Int)>0)=false by decide,cf,EQ rfl (Ac _) (D.le (by omega)),Af,Aa6]
 intro k
 induction k with
| zero =>
  intro C A B d f hfu I G D
  obtain⟨C,rfl⟩:∃ F,C=F+1:=⟨C - 1,by omega⟩
  have hy:B=0:=by
   rcases z6 B with h|h
   ·exact h
   ·have h3:=zW A (show 1<=B by omega)
    rw[Acx]at I;omega
  subst hy
  exact base C A d f D
| succ k ih =>
  intro C A B d f hfu I G D
  have h1:=D.1;have h2:=D.2
  obtain⟨C,rfl⟩:∃ F,C=F+1:=⟨C - 1,by omega⟩
  rcases z6 B with h|h
  ·subst h;exact base C A d f D
  have hll:=Bf G
  have hbl:(Al B).length≠0:=fun h0=>by have:=Bb.1 h0;omega
  have hd0:decide ((((Al B).length:Nat):Int)>0)=true:=by rw[decide_eq_true_eq];omega
  by_cases ha2:(Al A).length<=2
  ·have av:=MR ha2
   obtain⟨S,s1,s2,T⟩:=o_ (R:=R) (N:=N) (by omega) 128 N A B (by omega) (by have:=Aac av (zl G av);exact this) G av
   refine⟨S,s1,s2,fun K=>?_⟩
   rw[Dz];unfold Sd
   rw[hd0,ct,show decide ((((Al A).length:Nat):Int)<=2)=true by rw[decide_eq_true_eq];omega,ct,W6 rfl (Ac _) ha2 (by omega),W6 rfl (Ac _) (by omega) (by omega),Af,Af]
   exact T _ K
  ·have hd2:decide ((((Al A).length:Nat):Int)<=2)=false:=by rw[decide_eq_false_iff_not];omega
   obtain⟨a1,a2,b1,b2,e,r1,r2,r3,r4,r5,r6⟩:=gj (R:=R) (N:=N) (a:=Al A) (b:=Al B) (t:=false) (o:=d) (t':=false) (o':=f) rfl rfl (Ac _) (Ac _) (by omega) (WG _ _) hll (by rw[Af,Af];exact G) (D.le (by omega))
   rw[Af,Af]at r1
   have start:∀ K:Nat->LA->O R,Dz N K (C+1) (Ad (Al A)) (Al A).length d (Ad (Al B)) (Al B).length f=cond ((b1:Int)==0) (Ej N (Ad (Al A)) (Al A).length false d (Ad (Al B)) (Al B).length false f fun bm ag bn bo ar=>Dz N K C (Ad (Al B)) (Al B).length f (take (ag*1) ar) ag false) (cond e (Fk N (Ad (Al A)) (Al A).length false d (a1:Int) (Ad (Al B)) (Al B).length false f (b1:Int) fun ah ax=>Fk N (Ad (Al B)) (Al B).length false f (b2:Int) (Ad (Al A)) (Al A).length false d (a2:Int) fun ai ba=>Dz N K C (take (ah*1) ax) ah false (take (ai*1) ba) ai false) (Fk N (Ad (Al B)) (Al B).length false f (b1:Int) (Ad (Al A)) (Al A).length false d (a1:Int) fun aj bd=>Fk N (Ad (Al A)) (Al A).length false d (a2:Int) (Ad (Al B)) (Al B).length false f (b2:Int) fun ak bg=>Dz N K C (take (aj*1) bd) aj false (take (ak*1) bg) ak false)):=by
    intro K
    rw[Dz];unfold Sd
    rw[hd0,ct,hd2,cf,r6,uW]
    rfl
   by_cases Y:b1=0
   ·obtain⟨Sq,Sr,q1,q2,q3,q4,q5⟩:=DF (R:=R) (N:=N) (a:=Al A) (b:=Al B) (t:=false) (o:=d) (t':=false) (o':=f) rfl rfl (Ac _) (Ac _) (by rw[Af];omega) (D.le (by omega))
    rw[Af,Af]at q2 q4 q5
    have hm:=Aav A h
    have hh:=DG (show 1<=B by omega) G
    obtain⟨S,s1,s2,T⟩:=ih C B (A%B) f false (by omega) (by rw[zR]at I;omega) (by omega) (D.le (by omega))
    have hg:Nat.gcd B (A%B)=Nat.gcd A B:=by rw[Aak,<-Ad0,Aak]
    rw[hg]at s2 T
    refine⟨S,s1,s2,fun K=>?_⟩
    have tk:take ((Al (A%B)).length*1) (Ad Sr)=Ad (Al (A%B)):=by rw[<-q4,Ia q3]
    rw[start,yP Y,ct,q5,tk,T]
   ·rcases r1 with r1|⟨p1,p2,r1⟩
    ·exact absurd r1 Y
    cases e with
    |true =>
     obtain⟨c1,c2,c3,c4⟩:=r1
     obtain⟨S1,t1,t2,t3⟩:=Qu (R:=R) (N:=N) (a:=Al A) (b:=Al B) (x:=a1) (y:=b1) (t:=false) (o:=d) (t':=false) (o':=f) rfl rfl (Ac _) (Ac _) r2 r4 (by rw[Af,Af,zH,zH A];exact c1) (D.le (by omega))
     obtain⟨S2,w1,w2,w3⟩:=Qu (R:=R) (N:=N) (a:=Al B) (b:=Al A) (x:=b2) (y:=a2) (t:=false) (o:=f) (t':=false) (o':=d) rfl rfl (Ac _) (Ac _) r5 r3 (by rw[Af,Af,zH,zH B];exact c2) (D.le (by omega))
     rw[Af,Af]at t2 t3 w2 w3
     have g1:(A*a1 - B*b1)+b1*B=a1*A:=by rw[zH A,zH B];omega
     have g2:(B*b2 - A*a2)+a2*A=b2*B:=by rw[zH A,zH B];omega
     have L:B*b2 - A*a2<=A*a1 - B*b1:=by rw[zS,zS]at c3;omega
     obtain⟨i1,i2⟩:=dF g1 g2 c4
     have hg:=jK g1 g2 c4
     obtain⟨i3,i4⟩:=dG i1 i2 p2 (by omega) p1 L
     have hl:=Bf i4
     obtain⟨S,s1,s2,T⟩:=ih C (A*a1 - B*b1) (B*b2 - A*a2) false false (by omega) (by rw[zR]at I;omega) L (D.le (by omega))
     rw[hg]at s2 T
     refine⟨S,s1,s2,fun K=>?_⟩
     have tk1:take ((Al (A*a1 - B*b1)).length*1) (Ad S1)=Ad (Al (A*a1 - B*b1)):=by rw[<-t2,Ia t1]
     have bA:take ((Al (B*b2 - A*a2)).length*1) (Ad S2)=Ad (Al (B*b2 - A*a2)):=by rw[<-w2,Ia w1]
     rw[start,a_ Y,cf,ct,t3,w3,tk1,bA,T]
    |false =>
     obtain⟨c1,c2,c3,c4⟩:=r1
     obtain⟨S1,t1,t2,t3⟩:=Qu (R:=R) (N:=N) (a:=Al B) (b:=Al A) (x:=b1) (y:=a1) (t:=false) (o:=f) (t':=false) (o':=d) rfl rfl (Ac _) (Ac _) r4 r2 (by rw[Af,Af,zH,zH B];exact c1) (D.le (by omega))
     obtain⟨S2,w1,w2,w3⟩:=Qu (R:=R) (N:=N) (a:=Al A) (b:=Al B) (x:=a2) (y:=b2) (t:=false) (o:=d) (t':=false) (o':=f) rfl rfl (Ac _) (Ac _) r3 r5 (by rw[Af,Af,zH,zH A];exact c2) (D.le (by omega))
     rw[Af,Af]at t2 t3 w2 w3
     have g1:(B*b1 - A*a1)+a1*A=b1*B:=by rw[zH A,zH B];omega
     have g2:(A*a2 - B*b2)+b2*B=a2*A:=by rw[zH A,zH B];omega
     have L:A*a2 - B*b2<=B*b1 - A*a1:=by rw[zS,zS]at c3;omega
     obtain⟨i1,i2⟩:=dF g2 g1 c4
     have hg:=jK g2 g1 c4
     rw[Aak]at hg
     rw[Acc]at i1 i2
     obtain⟨i3,i4⟩:=dG i1 i2 p2 (by omega) p1 L
     have hl:=Bf i4
     obtain⟨S,s1,s2,T⟩:=ih C (B*b1 - A*a1) (A*a2 - B*b2) false false (by omega) (by rw[zR]at I;omega) L (D.le (by omega))
     rw[hg]at s2 T
     refine⟨S,s1,s2,fun K=>?_⟩
     have tk1:take ((Al (B*b1 - A*a1)).length*1) (Ad S1)=Ad (Al (B*b1 - A*a1)):=by rw[<-t2,Ia t1]
     have bA:take ((Al (A*a2 - B*b2)).length*1) (Ad S2)=Ad (Al (A*a2 - B*b2)):=by rw[<-w2,Ia w1]
     rw[start,a_ Y,cf,cf,t3,w3,tk1,bA,T]
def jx(n m:Nat):4294967296 ^ n*4294967296 ^ m=2 ^ (32*(n+m)):=by rw[<-Aab,show(4294967296:Nat)=2 ^ 32 by rfl,<-Aft]
def qz{N:Nat}{a b:List Nat}{n m:Nat}{t o t' o':Bool}(T:n=a.length)(Y:m=b.length)(G:Ag a)(I:Ag b)(C:fit (2*(a.length+b.length)+4) N):
  ∃ S,Ag S/\val S=Nat.gcd (val a) (val b)/\∀ K:Nat->LA->O R,IG N (Ad a) n t o (Ad b) m t' o' K=K (Al (Nat.gcd (val a) (val b))).length (Ad S):=by
 have h1:=C.1;have h2:=C.2
 have la:=(A7 G).2
 have lb:=(A7 I).2
 have k:val a*val b<2 ^ (32*(a.length+b.length)):=by rw[<-jx];exact Aac (Be G) (Be I)
 have start:∀ K:Nat->LA->O R,IG N (Ad a) n t o (Ad b) m t' o' K=cond (decide (Fq (val a) (val b)<0)) (Dz N K N (Ad (Al (val b))) (Al (val b)).length o' (Ad (Al (val a))) (Al (val a)).length o) (Dz N K N (Ad (Al (val a))) (Al (val a)).length o (Ad (Al (val b))) (Al (val b)).length o'):=by
  intro K
  rw[WT];unfold UE EG IF
  rw[Bi T G (C.le (by omega)),Bi Y I (C.le (by omega)),Lf rfl rfl (Ac _) (Ac _) (C.le (by omega)),Af,Af]
 by_cases D:val a<val b
 ·obtain⟨S,s1,s2,L⟩:=jw (R:=R) (N:=N) (32*(a.length+b.length)) N (val b) (val a) o' o (by omega) (by rw[zH];exact k) (by omega) (C.le (by omega))
  rw[Aak]at s2
  refine⟨S,s1,s2,fun K=>?_⟩
  rw[start,show decide (Fq (val a) (val b)<0)=true by(unfold Fq;rw[if_pos D];rfl),ct,L,Aak]
 ·obtain⟨S,s1,s2,L⟩:=jw (R:=R) (N:=N) (32*(a.length+b.length)) N (val a) (val b) o o' (by omega) k (by omega) (C.le (by omega))
  refine⟨S,s1,s2,fun K=>?_⟩
  rw[start,show decide (Fq (val a) (val b)<0)=false by(unfold Fq;rw[if_neg D];split<;>rfl),cf,L]
def vj{c:Nat}(h:c<=1000000000000):((ble (0+c) 140737488355328)&&(ble ((0+c)*4) 140737488355328))=true:=by simp;omega
def I_{N:Nat}{l:List Nat}{t o:Bool}{K:Nat->LA->O R}(D:Ag l)(hs:l.length<=1000000000000):∀(c k:Nat),c<=l.length->c<k ->
  I6 N K (Ad l) l.length t o k (c:Int)=K (Al (val (l.take c))).length (Ad (Al (val (l.take c))))
|0,k+1,hc,_=>by
  rw[I6];unfold Qf
  rw[show decide (((0:Nat):Int)>0)=false by simp]
  rw[show((false:Bool)==true)=false by rfl,cf,tF (by omega),ct,zG,zY,Nd,Tv,Adl,ct,vj (by omega),ct];rfl
| c+1,k+1,hc,G=>by
  rw[I6];unfold Qf
  rw[lT,ct,wP (by omega),Aa (by omega),ct,CB (by omega),jT,tF (by omega),ct,I_ D hs c k (by omega) (by omega),zG,zY,Nd,Tv,Adl,ct,vj (by omega),ct,zU]
  by_cases C:l[c]=0
  ·rw[Au (by omega),C];simp
  ·rw[fg D (by omega) C,zT,zZ hc]
   rw[a_ C,cf]
def C4{N:Nat}{l:List Nat}{n:Nat}{t o:Bool}{K:Nat->LA->O R}(C:n=l.length)(D:Ag l)(k:fit l.length N):Df N (Ad l) n t o K=K (Al (val l)).length (Ad (Al (val l))):=by
 subst C
 have G:=k.1;have I:=k.2
 rw[Yd];unfold Wl
 rw[I_ D (by omega) l.length N (zE _) (by omega),zd]
def jy{N:Nat}{a b:List Nat}{t o t' o':Bool}{K:Bool->O R}(hs:a.length<=1000000000000)(G:a.length=b.length):∀(m j k:Nat),j+m=a.length->m<k ->
  Hh N K (Ad a) a.length t o (Ad b) b.length t' o' k (j:Int)=K (decide (a.drop j=b.drop j))
|0,j,k+1,I,_=>by
  rw[Hh];unfold N8
  rw[Wc (by omega),cf,Aaa (by omega),Aaa (by omega)];simp
|m+1,j,k+1,I,L=>by
  have C:j<a.length:=by omega
  have D:j<b.length:=by omega
  rw[Hh];unfold N8
  rw[T6 C,ct,Aa C,ct,CB C,Aa D,ct,CB D,wS (by omega),jy hs G m (j+1) k (by omega) (by omega),Aar C,Aar D]
  by_cases h:a[j]=b[j]
  ·rw[show(((a[j]:Nat):Int) != ((b[j]:Nat):Int))=false by simp[h],cf];congr 1;rw[decide_eq_decide,List.cons.injEq];exact⟨fun hh=>⟨h,hh⟩,fun hh=>hh.2⟩
  ·rw[show(((a[j]:Nat):Int) != ((b[j]:Nat):Int))=true by rw[bne_iff_ne];omega,ct];congr 1;symm;rw[decide_eq_false_iff_not,List.cons.injEq];exact fun hh=>h hh.1
def rA{N:Nat}{a b:List Nat}{n m:Nat}{t o t' o':Bool}{K:Bool->O R}(D:n=a.length)(G:m=b.length)(C:fit a.length N):Wo N (Ad a) n t o (Ad b) m t' o' K=K (decide (a=b)):=by
 subst D G
 have I:=C.1;have L:=C.2
 rw[GD];unfold Ye
 by_cases k:a.length=b.length
 ·rw[show((a.length:Int) != (b.length:Int))=false by simp[k],cf]
  have:=jy (R:=R) (N:=N) (t:=t) (o:=o) (t':=t') (o':=o') (K:=K) (by omega) k a.length 0 N (by omega) (by omega)
  simpa using this
 ·rw[show((a.length:Int) != (b.length:Int))=true by rw[bne_iff_ne];omega,ct]
  congr 1;symm;rw[decide_eq_false_iff_not];intro h;exact k (by rw[h])
def Uy{N:Nat}{v:Nat}{K:Nat->LA->O R}(D:v<18446744073709551616)(hN:4<=N):Fl N (v:Int) K=K (Al v).length (Ad (Al v)):=by
 have C:Ag [v%4294967296,v/4294967296]:=Cj.2 ⟨by omega,Cj.2 ⟨by omega,Nc⟩⟩
 have k:val [v%4294967296,v/4294967296]=v:=by simp[val];omega
 rw[Sg];unfold O2
 rw[KD,ST,oA (show v/4294967296<4294967296 by omega)]
 have:=I_ (R:=R) (N:=N) (l:=[v%4294967296,v/4294967296]) (t:=false) (o:=true) (K:=K) C (by simp) 2 N (by simp) (by omega)
 rw[show [v%4294967296,v/4294967296].take 2=[v%4294967296,v/4294967296] by rfl,k]at this
 rw[Yd];unfold Wl
 exact this
def Zb{N:Nat}{l:List Nat}{n:Nat}{t o:Bool}{K:Int->Bool->O R}(T:n=l.length)(Y:Ag l)(I:fit l.length N):Nq N (Ad l) n t o K=if val l<18446744073709551616 then K (val l:Int) true else K 0 false:=by
 have h1:=I.1
 rw[CM];unfold Ua
 rw[C4 T Y I]
 by_cases h:val l<18446744073709551616
 ·have hd:=Y8 h
  rw[if_pos h,show decide ((((Al (val l)).length:Nat):Int)>2)=false by simp;omega,cf]
  have k:=Af (val l)
  have D:=Ac (val l)
  obtain⟨M,hM⟩:∃ M,N=M+4:=⟨N - 4,by omega⟩
  rw[hM]
  generalize Al (val l)=d at *
  match d,hd,k,D with
  |[],_,k,_ =>
   dsimp only
   rw[De];unfold Ec
   rw[<-k,i64 (by simp)];rfl
  |[x],_,k,D =>
   have G:=(Cj.1 D).1
   have C:val l=x:=by rw[<-k];simp[val]
   dsimp only
   rw[De];unfold Ec
   rw[i64 (by simp),show((([x]:List Nat).length:Nat):Int) - 1=((0:Nat):Int) by rfl,show decide (((0:Nat):Int)>=0)=true by rfl,ct,Aa (by simp),ct,OO (by simp)]
   rw[De];unfold Ec
   rw[i64 (by simp),show decide ((((0:Nat):Int) - 1)>=0)=false by rfl,cf]
   have:=uS (a:=0) (b:=x) (by omega) G
   simp only[Acv]
   rw[G3 (show x<18446744073709551616 by omega),show(0:Int)=((0:Nat):Int) by rfl,this,C];simp
  |[x,y],_,k,D =>
   have G:=(Cj.1 D).1
   have L:=(Cj.1 (Cj.1 D).2).1
   have C:val l=y*4294967296+x:=by rw[<-k];simp[val];omega
   dsimp only
   rw[De];unfold Ec
   rw[i64 (by simp),show((([x,y]:List Nat).length:Nat):Int) - 1=((1:Nat):Int) by rfl,show decide (((1:Nat):Int)>=0)=true by rfl,ct,Aa (by simp),ct,OO (by simp)]
   rw[De];unfold Ec
   rw[i64 (by simp),show(((1:Nat):Int) - 1)=((0:Nat):Int) by rfl,show decide (((0:Nat):Int)>=0)=true by rfl,ct,Aa (by simp),ct,OO (by simp)]
   rw[De];unfold Ec
   rw[i64 (by simp),show decide ((((0:Nat):Int) - 1)>=0)=false by rfl,cf]
   have o1:=uS (a:=0) (b:=y) (by omega) L
   have o2:=uS (a:=y) (b:=x) L G
   simp only[Acv,Acu]
   rw[G3 (show y<18446744073709551616 by omega),G3 (show x<18446744073709551616 by omega),show(0:Int)=((0:Nat):Int) by rfl,o1,Adq,zU,o2,C]
 ·have:¬ (Al (val l)).length<=2:=fun h2=>h (MR h2)
  rw[if_neg h,show decide ((((Al (val l)).length:Nat):Int)>2)=true by simp;omega,ct]
def dH{N:Nat}{x y:List Nat}{K:Int->O R}(G:Ag x)(I:Ag y)(hs:x.length<=1000000000000)(T:x.length=y.length):∀(i k:Nat),i<=x.length->i<k ->
  Fm N K x.length y.length (Ad x) (Ad y) k ((i:Int) - 1)=K (Fq (val (x.take i)) (val (y.take i)))
|0,k+1,_,_=>by
  rw[Fm];unfold Kr
  rw[show decide ((((0:Nat):Int) - 1)>=0)=false by simp,cf]
  simp[Rf]
| i+1,k+1,hi,Y=>by
  rw[Fm];unfold Kr
  rw[show(((i+1:Nat):Int) - 1)=(i:Int) by omega,show decide ((i:Int)>=0)=true by simp,ct,Aa (by omega),ct,OO (by omega),Aa (by omega),ct,OO (by omega),ct,OO (by omega),ct,OO (by omega),i64 (by omega),
   dH G I hs T i k (by omega) (by omega),Au (by omega),Au (by omega)]
  have C:=Be (B7 G i)
  have D:=Be (B7 I i)
  rw[zT,zZ (by omega)]at C D
  by_cases c1:x[i]<y[i]
  ·have:=UJ C D c1
   rw[show decide (((x[i]:Nat):Int)<((y[i]:Nat):Int))=true by simp;exact c1,ct]
   unfold Fq;rw[if_pos this]
  ·by_cases L:y[i]<x[i]
   ·have:=UJ D C L
    rw[show decide (((x[i]:Nat):Int)<((y[i]:Nat):Int))=false by simp;omega,cf,show decide (((x[i]:Nat):Int)>((y[i]:Nat):Int))=true by simp;exact L,ct]
    unfold Fq;rw[if_neg (by omega),if_pos this]
   ·have:x[i]=y[i]:=by omega
    rw[show decide (((x[i]:Nat):Int)<((y[i]:Nat):Int))=false by simp;omega,cf,show decide (((x[i]:Nat):Int)>((y[i]:Nat):Int))=false by simp;omega,cf,this]
    unfold Fq
    congr 1
    by_cases a1:val (x.take i)<val (y.take i)
    ·rw[if_pos a1,if_pos (by omega)]
    ·by_cases a2:val (y.take i)<val (x.take i)
     ·rw[if_neg a1,if_pos a2,if_neg (by omega),if_pos (by omega)]
     ·rw[if_neg a1,if_neg a2,if_neg (by omega),if_neg (by omega)]
def oa{N:Nat}{a b:List Nat}{n m:Nat}{t o t' o':Bool}{K:Int->O R}(L:n=a.length)(T:m=b.length)(C:Ag a)(D:Ag b)(k:fit (a.length+b.length) N):
  Og N (Ad a) n t o (Ad b) m t' o' K=K (Fq (val a) (val b)):=by
 subst L T
 have Y:=k.1;have h2:=k.2
 rw[Z1];unfold Qg
 dsimp only
 rw[C4 rfl C (k.le (by omega)),C4 rfl D (k.le (by omega))]
 have la:=(A7 C).2
 have lb:=(A7 D).2
 by_cases G:(Al (val a)).length=(Al (val b)).length
 ·rw[show((((Al (val a)).length:Nat):Int) != (((Al (val b)).length:Nat):Int))=false by simp;omega,cf,i64 (by omega),dH (Ac _) (Ac _) (by omega) G _ N (zE _) (by omega),zd,G,zd,Af,Af]
 ·rw[show((((Al (val a)).length:Nat):Int) != (((Al (val b)).length:Nat):Int))=true by simp;omega,ct]
  by_cases I:(Al (val a)).length<(Al (val b)).length
  ·have:=Y7 I
   rw[T6 I,ct]
   unfold Fq;rw[if_pos this]
  ·have:=Y7 (show(Al (val b)).length<(Al (val a)).length by omega)
   rw[Wc (by omega),cf]
   unfold Fq;rw[if_neg (by omega),if_pos this]
def vq(a b:Nat):Ij (a:Int) (b:Int)=((max a b:Nat):Int):=by
 unfold Ij
 by_cases h:(b:Int)>(a:Int)
 ·rw[decide_eq_true h];show(b:Int)=_;omega
 ·rw[decide_eq_false h];show(a:Int)=_;omega
def dI{N:Nat}{a b:List Nat}{t o t' o':Bool}{n:Nat}(T:Ag a)(Y:Ag b)(hla:a.length<n)(hlb:b.length<n)(hn:n<=max a.length b.length+1)(I:fit n N):∀(m d k:Nat)(S:List Nat)(c:Nat),d+m=n->m<k->Ag S->S.length=n->pL S d->c<=1 ->
  val S+4294967296 ^ d*c=val (a.take d)+val (b.take d) ->
  ∀ K:Nat->LA->O R,Ge N K (Ad a) a.length t o (Ad b) b.length t' o' k n (c:Int) (d:Int) (Ad S)=K (Al (val a+val b)).length (Ad (Al (val a+val b)))
| 0,d,k+1,S,c,hd,_,hS,L,hz,hc,hv=>by
  intro K
  have hd':d=n:=by omega
  subst hd'
  rw[zF (by omega),zF (by omega)]at hv
  have hc0:c=0:=by
   rcases z6 c with h|h
   ·exact h
   ·exfalso
    have hc1:c=1:=by omega
    subst hc1
    obtain⟨e,rfl⟩:∃ e,d=e+1:=⟨d - 1,by omega⟩
    have x1:=Be T
    have x2:=Be Y
    have y1:4294967296 ^ a.length<=4294967296 ^ e:=zh (by omega) (by omega)
    have y2:4294967296 ^ b.length<=4294967296 ^ e:=zh (by omega) (by omega)
    rw[zR]at hv
    omega
  subst hc0
  have hv2:val S=val a+val b:=by omega
  rw[Ge];unfold Ub
  rw[Wc (zE _),cf,zY,zF (by rw[Bk];omega),C4 L.symm hS (by rw[L];exact I),hv2]
| m+1,d,k+1,S,c,hd,hfu,hS,L,hz,hc,hv=>by
  intro K
  have h1:=I.1;have h2:=I.2
  have ga:=Rg T d
  have gb:=Rg Y d
  have step:∀ s:Nat,s=c+a.getD d 0+b.getD d 0->val (S.set d (s%4294967296))+4294967296 ^ (d+1)*(s/4294967296)=val (a.take (d+1))+val (b.take (d+1)):=by
   intro s hs
   rw[Qt hz (by omega),Lg a d,Lg b d,zR]
   have e:=Lh (4294967296 ^ d) s
   have e2:4294967296 ^ d*s=4294967296 ^ d*c+4294967296 ^ d*a.getD d 0+4294967296 ^ d*b.getD d 0:=by rw[hs,zN,zN]
   omega
  have next:∀ s:Nat,s=c+a.getD d 0+b.getD d 0->Ge N K (Ad a) a.length t o (Ad b) b.length t' o' k n ((s/4294967296:Nat):Int) ((d+1:Nat):Int) (Ad (S.set d (s%4294967296)))=K (Al (val a+val b)).length (Ad (Al (val a+val b))):=by
   intro s hs
   exact dI T Y hla hlb hn I m (d+1) k (S.set d (s%4294967296)) (s/4294967296) (by omega) (by omega) (Cc hS (by omega) d) (by simpa using L) (Ux hz) (by omega) (step s hs) K
  have second:∀ w:Nat,w=c+a.getD d 0->Sh N (Ge N K (Ad a) a.length t o (Ad b) b.length t' o' k) K (Ad a) a.length t o (Ad b) b.length t' o' n (Ad S) (w:Int) (d:Int)=K (Al (val a+val b)).length (Ad (Al (val a+val b))):=by
   intro w hw
   unfold Sh
   by_cases C:d<b.length
   ·have G:b.getD d 0=b[d]:=by rw[zO,zD C];rfl
    rw[T6 C,ct,Aa C,ct,CB C,Aa (by omega),ct,hI (by omega),ct,G3 (show b[d]<18446744073709551616 by omega),AL,G3 (show w+b[d]<18446744073709551616 by omega),ST,KD,IB,wS (by omega)]
    exact next _ (by rw[hw,G])
   ·have G:b.getD d 0=0:=by rw[zO,zp (by omega)];rfl
    rw[Wc (by omega),cf,Aa (by omega),ct,hI (by omega),ct,ST,KD,IB,wS (by omega)]
    exact next _ (by rw[hw,G];rfl)
  rw[Ge];unfold Ub
  rw[T6 (by omega),ct]
  by_cases D:d<a.length
  ·have G:a.getD d 0=a[d]:=by rw[zO,zD D];rfl
   rw[T6 D,ct,Aa D,ct,CB D,G3 (show a[d]<18446744073709551616 by omega),AL,G3 (show c+a[d]<18446744073709551616 by omega)]
   exact second _ (by rw[G])
  ·have G:a.getD d 0=0:=by rw[zO,zp (by omega)];rfl
   rw[Wc (by omega),cf]
   exact second _ (by rw[G];rfl)
def dJ{N:Nat}{a b:List Nat}{n m:Nat}{t o t' o':Bool}{K:Nat->LA->O R}(C:n=a.length)(D:m=b.length)(G:Ag a)(I:Ag b)(k:fit (a.length+b.length+1) N):
  Yg N (Ad a) n t o (Ad b) m t' o' K=K (Al (val a+val b)).length (Ad (Al (val a+val b))):=by
 subst C D
 have L:=k.1;have T:=k.2
 rw[RQ];unfold LH
 rw[vq,wS (by omega),qL (by omega),ct,zG,Cy]
 exact dI G I (n:=max a.length b.length+1) (by omega) (by omega) (zE _) (k.le (by omega)) (max a.length b.length+1) 0 N (replicate (max a.length b.length+1) 0) 0 (by omega) (by omega) (Cb _) (by simp) (Ii _) (by omega) (by rw[D3];simp[val]) K
def dK{N:Nat}{a b:List Nat}(ha:Ag a)(hb:Ag b)(hf:fit a.length N)(T:b.length<=a.length)(hle:val b<=val a):∀(m d k:Nat)(S:List Nat)(c:Nat),d+m=a.length->m<k->Ag S->S.length=a.length->pL S d->c<=1 ->
  val S+val (b.take d)=val (a.take d)+4294967296 ^ d*c ->
  ∀ K:Nat->Bool->LA->O R,Gf N K a.length b.length (Ad a) (Ad b) k (c:Int) (d:Int) (Ad S)=K (Al (val a - val b)).length true (Ad (Al (val a - val b)))
| 0,d,k+1,S,c,hd,_,hS,Y,hz,hc,hv=>by
  intro K
  have hd':d=a.length:=by omega
  subst hd'
  rw[zd,zF T]at hv
  have G:=Be hS
  rw[Y]at G
  have hc0:c=0:=by
   rcases Ado 0 c with h|h
   ·exfalso
    have:c=1:=by omega
    subst this
    omega
   ·omega
  subst hc0
  have hv2:val S=val a - val b:=by omega
  rw[Gf];unfold Ui
  rw[Wc (zE _),cf,zY,zF (by rw[Bk];omega),C4 Y.symm hS (by rw[Y];exact hf),hv2]
| m+1,d,k+1,S,c,hd,hfu,hS,Y,hz,hc,hv=>by
  intro K
  have h1:=hf.1;have h2:=hf.2
  have C:d<a.length:=by omega
  have ad:=A0 ha C
  have gb:=Rg hb d
  have step:∀ y g c':Nat,y=c+b.getD d 0->a[d]+4294967296*c'=g+y->val (S.set d g)+val (b.take (d+1))=val (a.take (d+1))+4294967296 ^ (d+1)*c':=by
   intro y g c' L I
   rw[Qt hz (by omega),Au C,Lg b d,zR,zL]
   have e:4294967296 ^ d*(a[d]+4294967296*c')=4294967296 ^ d*(g+(c+b.getD d 0)):=by rw[I,L]
   rw[zN,zN,zN]at e
   omega
  have next:∀ y g c':Nat,g<4294967296->c'<=1->y=c+b.getD d 0->a[d]+4294967296*c'=g+y->Gf N K a.length b.length (Ad a) (Ad b) k (c':Int) ((d+1:Nat):Int) (Ad (S.set d g))=K (Al (val a - val b)).length true (Ad (Al (val a - val b))):=by
   intro y g c' I hc' L he
   exact dK ha hb hf T hle m (d+1) k (S.set d g) c' (by omega) (by omega) (Cc hS I d) (by simpa using Y) (Ux hz) hc' (step y g c' L he) K
  have second:∀ y:Nat,y=c+b.getD d 0->Sn N (Gf N K a.length b.length (Ad a) (Ad b) k) K a.length b.length (Ad a) (Ad b) (Ad S) (d:Int) (y:Int)=K (Al (val a - val b)).length true (Ad (Al (val a - val b))):=by
   intro y L
   unfold Sn
   rw[Aa C,ct,OO C,G3 (show a[d]<18446744073709551616 by omega)]
   by_cases G:a[d]<y
   ·rw[T6 G,ct,ct,hI (by omega),ct,show((a[d]:Nat):Int)+4294967296=((a[d]+4294967296:Nat):Int) by omega,G3 (show a[d]+4294967296<18446744073709551616 by omega),OA (by omega) (by omega),oA (by omega),IB,wS (by omega)]
    exact next y (a[d]+4294967296 - y) 1 (by omega) (by omega) L (by omega)
   ·rw[Wc (by omega),cf,ct,hI (by omega),ct,OA (by omega) (by omega),oA (by omega),IB,wS (by omega)]
    exact next y (a[d] - y) 0 (by omega) (by omega) L (by omega)
  rw[Gf];unfold Ui
  rw[T6 C,ct]
  by_cases D:d<b.length
  ·have I:b.getD d 0=b[d]:=by rw[zO,zD D];rfl
   rw[T6 D,ct,Aa D,ct,OO D,G3 (show b[d]<18446744073709551616 by omega),AL,G3 (show c+b[d]<18446744073709551616 by omega)]
   exact second _ (by rw[I])
  ·have I:b.getD d 0=0:=by rw[zO,zp (by omega)];rfl
   rw[Wc (by omega),cf]
   exact second _ (by rw[I];rfl)
def oc{N:Nat}{a b:List Nat}{n m:Nat}{t o t' o':Bool}{K:Nat->Bool->LA->O R}(L:n=a.length)(T:m=b.length)(D:Ag a)(G:Ag b)(C:fit (a.length+b.length) N):
  Ym N (Ad a) n t o (Ad b) m t' o' K=if val b<=val a then K (Al (val a - val b)).length true (Ad (Al (val a - val b)))else K 0 false []:=by
 subst L T
 have Y:=C.1;have h2:=C.2
 have la:=(A7 D).2
 have lb:=(A7 G).2
 rw[RW];unfold LM
 dsimp only
 rw[oa rfl rfl D G C]
 by_cases k:val b<=val a
 ·have I:=Bf k
  rw[if_pos k,show decide (Fq (val a) (val b)<0)=false by(unfold Fq;rw[if_neg (by omega)];split<;>rfl),cf,C4 rfl D (C.le (by omega)),C4 rfl G (C.le (by omega)),qL (by omega),ct,Cy]
  have:=dK (R:=R) (N:=N) (a:=Al (val a)) (b:=Al (val b)) (Ac _) (Ac _) (C.le (by omega)) I (by rw[Af,Af];exact k) (Al (val a)).length 0 N (replicate (Al (val a)).length 0) 0 (by omega) (by omega) (Cb _) (by simp) (Ii _) (by omega) (by rw[D3];simp[val]) K
  rw[Af,Af]at this
  exact this
 ·rw[if_neg k,show decide (Fq (val a) (val b)<0)=true by(unfold Fq;rw[if_pos (by omega)];rfl),ct]
def YX{N:Nat}:∀(k C n v:Nat),v<2 ^ k->k<C->n+k<=1000000000000->∃ b:Nat,b<=k/\v<2 ^ b/\(v≠0->2 ^ b<=2*v)/\(v=0->b=0)/\∀ K:Int->O R,G7 N K C (n:Int) (v:Int)=K ((n+b:Nat):Int)
|0,C+1,n,v,G,_,_=>by
  have D:v=0:=by simpa using G
  subst D
  refine⟨0,by omega,by simp,fun h=>absurd rfl h,fun _=>rfl,fun K=>?_⟩
  rw[G7];unfold L7
  rw[show decide (((0:Nat):Int)>0)=false by rfl,cf];rfl
| k+1,C+1,n,v,G,T,Y=>by
  by_cases D:v=0
  ·subst D
   refine⟨0,by omega,by simp,fun h=>absurd rfl h,fun _=>rfl,fun K=>?_⟩
   rw[G7];unfold L7
   rw[show decide (((0:Nat):Int)>0)=false by rfl,cf];rfl
  ·obtain⟨b,b1,b2,b3,b4,L⟩:=YX (N:=N) k C (n+1) (v/2) (by rw[zR]at G;omega) (by omega) (by omega)
   refine⟨b+1,by omega,by rw[zR];omega,fun _=>?_,fun h=>absurd h D,fun K=>?_⟩
   ·by_cases I:v/2=0
    ·rw[b4 I];simp;omega
    ·have:=b3 I;rw[zR];omega
   ·rw[G7];unfold L7
    rw[show decide ((v:Int)>0)=true by rw[decide_eq_true_eq];omega,ct,wS (by omega),Lo v 1,show v/2 ^ 1=v/2 by rfl,L]
    congr 2;omega
def lu{N:Nat}{a:List Nat}{n:Nat}{t o:Bool}(T:n=a.length)(I:Ag a)(G:fit a.length N):∃ nb:Nat,nb<=32*a.length/\val a<2 ^ nb/\(val a≠0->2 ^ nb<=2*val a)/\(val a=0->nb=0)/\∀ K:Int->O R,CN N (Ad a) n t o K=K (nb:Int):=by
 have h1:=G.1;have h2:=G.2
 have la:=(A7 I).2
 by_cases D:val a=0
 ·refine⟨0,by omega,by rw[D];simp,fun h=>absurd D h,fun _=>rfl,fun K=>?_⟩
  rw[Yf];unfold Wq
  rw[C4 T I G,D,C6];rfl
 ·have hl:(Al (val a)).length≠0:=fun h=>D (Bb.1 h)
  obtain⟨k,L⟩:∃ k,(Al (val a)).length=k+1:=⟨(Al (val a)).length - 1,by omega⟩
  have top:=A0 (Ac (val a)) (show k<(Al (val a)).length by omega)
  have C:(Al (val a))[k]'(by omega)≠0:=by
   have:=WG (val a) (HO D)
   rw[Abv]at this
   simp only[L,Ae9]at this
   exact this
  have tf:=W7 L
  have tl:=Za (Ac (val a)) L
  rw[Af]at tf tl
  obtain⟨b,b1,b2,b3,b4,b5⟩:=YX (R:=R) (N:=N) 32 N (32*k) ((Al (val a))[k]'(by omega)) (by exact top) (by omega) (by omega)
  have Y:(2:Nat) ^ (32*k+b)=4294967296 ^ k*2 ^ b:=by rw[Aab,Aft]
  refine⟨32*k+b,by omega,?_,fun _=>?_,fun h=>absurd h D,fun K=>?_⟩
  ·rw[Y]
   have:((Al (val a))[k]'(by omega)+1)*4294967296 ^ k<=2 ^ b*4294967296 ^ k:=zI _ b2
   rw[zH (2 ^ b)]at this;omega
  ·rw[Y]
   have:=zW (4294967296 ^ k) (b3 C)
   rw[Aa3]at this
   omega
  ·rw[Yf];unfold Wq
   have w1:wrap .i64 ((((Al (val a)).length:Nat):Int) - 1)=(k:Int):=by rw[i64 (by omega)];omega
   have w2:wrap .i64 ((32:Int)*(k:Int))=((32*k:Nat):Int):=by rw[i64 (by omega)];omega
   rw[C4 T I G,a_ hl,cf,w1,Aa (by omega),ct,OO (by omega),w2]
   exact b5 K
def jz{a:List Nat}{j:Nat}(h:j<a.length):val a=val (a.take j)+4294967296 ^ j*(a[j]+4294967296*val (a.drop (j+1))):=by
 have:=Ky (a.take j) (a.drop j)
 rw[Abd,zT,zZ (by omega),DE h]at this
 exact this
def PS(j k:Nat):(2:Nat) ^ (32*j+k)=4294967296 ^ j*2 ^ k:=by rw[Aab,Aft]
def s5{a:List Nat}{j k:Nat}(C:Ag a)(h:j<a.length)(I:k<32):val a/2 ^ (32*j+k)%2=a[j]/2 ^ k%2:=by
 have tl:=Be (B7 C j)
 rw[zT,zZ (by omega)]at tl
 have hP:0<4294967296 ^ j:=Aah (by omega)
 have D:0<2 ^ k:=Aah (by omega)
 rw[PS,<-Acw,jz h,Abh _ _ hP,zw tl,zU]
 have e:4294967296=2 ^ k*(2*2 ^ (31 - k)):=by rw[<-Nat.pow_succ',<-Aab,show k+(31 - k+1)=32 by omega]
 have G:4294967296*val (a.drop (j+1))=2 ^ k*(2*(2 ^ (31 - k)*val (a.drop (j+1)))):=by
  rw[<-zL 2,<-zL,<-e]
 rw[G,Abh _ _ D,Adw]
def od{N:Nat}{a:List Nat}{n:Nat}{t o:Bool}{i:Nat}{K:Int->O R}(I:n=a.length)(G:Ag a)(hi:i<32*a.length)(hs:a.length<=1000000000):UF N (Ad a) n t o (i:Int) K=K ((val a/2 ^ i%2:Nat):Int):=by
 subst I
 have C:i/32<a.length:=by omega
 have aj:=A0 G C
 rw[RR];unfold XI
 have L:wrap .i64 (Int.tdiv (i:Int) 32)=((i/32:Nat):Int):=by rw[show(32:Int)=((32:Nat):Int) by rfl,GW,i64 (by omega)]
 have T:wrap .u64 (Int.tmod (i:Int) 32)=((i%32:Nat):Int):=by rw[show(32:Int)=((32:Nat):Int) by rfl,DD,G3 (by omega)]
 rw[L,T,show decide (((i/32:Nat):Int)>=(a.length:Int))=false by rw[decide_eq_false_iff_not];omega,cf,Aa C,ct,CB C,show decide (((i%32:Nat):Int)<0)=false by rw[decide_eq_false_iff_not];omega,cf,zG,zZ (by omega),Lo]
 have D:a[i/32]/2 ^ (i%32)<4294967296:=zl (Aaw _ _) aj
 have e:=lM (k:=.u32) rfl (a:=a[i/32]/2 ^ (i%32)) (b:=1) D (by decide)
 rw[show(1:Int)=((1:Nat):Int) by rfl,e,Nat.and_one_is_mod]
 have:=s5 G C (k:=i%32) (by omega)
 rw[zx]at this
 rw[this]
def rC{Q:List Nat}{j k:Nat}(hQ:Ag Q)(h:j<Q.length)(G:k<32)(C:2 ^ (32*j+k+1)∣val Q):2 ^ (k+1)∣Q[j]:=by
 have tl:=Be (B7 hQ j)
 rw[zT,zZ (by omega)]at tl
 have hP:0<4294967296 ^ j:=Aah (by omega)
 rw[Aaf,PS,jz h]at C
 have D:val (Q.take j)=0:=by
  have x1:4294967296 ^ j∣val (Q.take j):=(Ac3 (Adz _ _)).1 (Nat.dvd_trans (Adz _ _) C)
  exact Nat.eq_zero_of_dvd_of_lt x1 tl
 rw[D,zU]at C
 have x2:=Nat.dvd_of_mul_dvd_mul_left hP C
 have x3:2 ^ (k+1)∣4294967296*val (Q.drop (j+1)):=Nat.dvd_trans ⟨2 ^ (31 - k),by rw[<-Aab,show k+1+(31 - k)=32 by omega]⟩ (Adz _ _)
 exact(Ac3 x3).1 x2
def PT{N:Nat}{a b:List Nat}{t o:Bool}{B:Nat}(ha:Ag a)(L:b=Al B)(hB:0<B)(I:fit (a.length+2*b.length+4) N):∀(i C:Nat)(Q:List Nat)(r:Nat),i<C->i<=32*a.length->Ag Q->Q.length=a.length->r=val a/2 ^ i%B->val Q=val a/2 ^ i/B*2 ^ i ->
  ∀ K:Nat->Nat->Bool->LA->LA->O R,D4 N K (Ad a) a.length t o b.length (Ad b) C (Al r).length ((i:Int) - 1) (Ad Q) (Ad (Al r))=K (Al (val a/B)).length (Al (val a%B)).length true (Ad (Al (val a/B))) (Ad (Al (val a%B)))
| 0,C+1,Q,r,_,_,hQ,hl,T,Y=>by
  intro K
  rw[Acx,Afr]at T Y
  rw[zY]at Y
  have lr:(Al r).length<=b.length:=by
   rw[L];apply Bf;rw[T];exact Aeh (Aav _ hB)
  rw[D4];unfold Ma
  rw[show decide ((((0:Nat):Int) - 1)>=0)=false by rfl,cf,zY,zF (by rw[Bk];omega),C4 hl.symm hQ (by rw[hl];exact I.le (by omega)),zY,zF (by rw[Bk];omega),C4 rfl (Ac _) (I.le (by omega)),Af,Y,T]
| i+1,C+1,Q,r,hfu,hi,hQ,hl,T,Y=>by
  intro K
  have h1:=I.1;have h2:=I.2
  have hrB:r<B:=by rw[T];exact Aav _ hB
  have lr:(Al r).length<=b.length:=by rw[L];exact Bf (Aeh hrB)
  have G:val a/2 ^ i=2*(val a/2 ^ (i+1))+val a/2 ^ i%2:=by
   have:=zx (val a/2 ^ i) 2
   rw[Acw,<-zR]at this
   exact this.symm
  have hdm:=zx (val a/2 ^ (i+1)) B
  have hb2:val a/2 ^ i%2<2:=Aav _ (by omega)
  generalize hH:val a/2 ^ (i+1)=H at *
  generalize hbit:val a/2 ^ i%2=bt at *
  have D:val a/2 ^ i=B*(2*(H/B))+(2*r+bt):=by
   rw[G,T,Aa3];omega
  clear T hdm G
  have hj:i/32<Q.length:=by omega
  have qj:=A0 hQ hj
  have hdvd:2 ^ (32*(i/32)+i%32+1)∣val Q:=by rw[zx,Y];exact Nat.dvd_mul_left _ _
  have hfree:=rC hQ hj (Aav _ (by omega)) hdvd
  have hpw:2 ^ i=4294967296 ^ (i/32)*2 ^ (i%32):=by rw[<-PS,zx]
  have hpk:2 ^ (i%32+1)<=4294967296:=(zh (by omega) (show i%32+1<=32 by omega):2 ^ (i%32+1)<=2 ^ 32)
  have hor:K5 .u32 ((Q[i/32]:Nat):Int) (wrap .u32 ((1:Int)*2 ^ (min (Int.toNat ((i%32:Nat):Int)) 32)))=((Q[i/32]+2 ^ (i%32):Nat):Int)/\Q[i/32]+2 ^ (i%32)<4294967296:=by
   obtain⟨c,hc⟩:=hfree
   have hpos:0<2 ^ (i%32):=Aah (by omega)
   have hlt:Q[i/32]+2 ^ (i%32)<4294967296:=by
    obtain⟨w,hw⟩:∃ w,4294967296=2 ^ (i%32+1)*w:=⟨2 ^ (31 - i%32),by rw[<-Aab,show i%32+1+(31 - i%32)=32 by omega]⟩
    have x1:c<w:=by rw[hc,hw]at qj;exact Abc qj
    have x2:=zW (2 ^ (i%32+1)) (show c+1<=w from x1)
    rw[zN,<-hw,<-hc,zY,zR]at x2
    omega
   refine⟨?_,hlt⟩
   rw[zG,zZ (by omega),Int.one_mul,show(2:Int) ^ (i%32)=((2 ^ (i%32):Nat):Int) by simp,oA (by rw[zR]at hpk;omega),b_ (k:=.u32) rfl qj (by show 2 ^ (i%32)<4294967296;rw[zR]at hpk;omega)]
   congr 1
   have e:Q[i/32]=c*2 ^ (i%32+1):=by rw[hc,zH]
   rw[e];exact OB (by rw[zR];omega)
  have w1:wrap .i64 (Int.tdiv (i:Int) 32)=((i/32:Nat):Int):=by rw[show(32:Int)=((32:Nat):Int) by rfl,GW,i64 (by omega)]
  have w2:wrap .u64 (Int.tmod (i:Int) 32)=((i%32:Nat):Int):=by rw[show(32:Int)=((32:Nat):Int) by rfl,DD,G3 (by omega)]
  have l2:(Al (2*r+bt)).length<=b.length+1:=by
   apply Iy
   have x1:=Be (Ac B)
   rw[Af,<-L]at x1
   rw[zR];omega
  have second:If N (D4 N K (Ad a) a.length t o b.length (Ad b) C) K (Ad a) a.length t o b.length (i:Int) (Ad b) (Ad Q) (Al (2*r+bt)).length (Ad (Al (2*r+bt)))=K (Al (val a/B)).length (Al (val a%B)).length true (Ad (Al (val a/B))) (Ad (Al (val a%B))):=by
   unfold If
   have lb:Ag b:=by rw[L];exact Ac _
   have vb:val b=B:=by rw[L,Af]
   rw[zY,zY,zF (by rw[Bk];omega),zF (by rw[Bk];omega),oc rfl rfl (Ac _) lb (I.le (by omega)),Af,vb]
   by_cases hge:B<=2*r+bt
   ·have hq1:val a/2 ^ i/B=2*(H/B)+1:=by
     rw[D,show B*(2*(H/B))+(2*r+bt)=B*(2*(H/B)+1)+(2*r+bt - B) by rw[zN];omega,Ack hB,zw (show 2*r+bt - B<B by omega),zg]
    have hm1:val a/2 ^ i%B=2*r+bt - B:=by
     rw[D,show B*(2*(H/B))+(2*r+bt)=B*(2*(H/B)+1)+(2*r+bt - B) by rw[zN];omega,Adc,zf (by omega)]
    rw[if_pos hge,ct,w1,w2,Aa (by omega),ct,OO hj,show decide (((i%32:Nat):Int)<0)=false by rw[decide_eq_false_iff_not];omega,cf,ct,hI hj,ct,hor.1,IB,i64 (by omega)]
    refine PT ha L hB I i C (Q.set (i/32) (Q[i/32]+2 ^ (i%32))) (2*r+bt - B) (by omega) (by omega) (Cc hQ hor.2 _) (by simpa using hl) hm1.symm ?_ K
    have x1:=UK (v:=Q[i/32]+2 ^ (i%32)) hj
    rw[zN,<-hpw]at x1
    rw[hq1,zS,Ad2,zH 2,zL,zH 2,<-zR,<-Y]
    omega
   ·have hq1:val a/2 ^ i/B=2*(H/B):=by rw[D,Ack hB,zw (show 2*r+bt<B by omega),zg]
    have hm1:val a/2 ^ i%B=2*r+bt:=by rw[D,Adc,zf (by omega)]
    rw[if_neg hge,cf,i64 (by omega)]
    refine PT ha L hB I i C Q (2*r+bt) (by omega) (by omega) hQ hl hm1.symm ?_ K
    rw[hq1,zH 2,zL,zH 2,<-zR,<-Y]
  rw[D4];unfold Ma
  rw[show(((i+1:Nat):Int) - 1)=(i:Int) by omega,show decide ((i:Int)>=0)=true by rw[decide_eq_true_eq];omega,ct,zY,zF (by rw[Bk];omega),dJ rfl rfl (Ac _) (Ac _) (I.le (by omega)),Af,od rfl ha (by omega) (by omega),hbit]
  have l3:(Al (r+r)).length<=b.length+1:=by
   apply Iy
   have x1:=Be (Ac B)
   rw[Af,<-L]at x1
   rw[zR];omega
  rcases(show bt=0\/bt=1 by omega)with rfl|rfl
  ·rw[show(((0:Nat):Int)==1)=false by rfl,cf]
   rw[show 2*r+0=r+r by omega]at second
   exact second
  ·rw[show(((1:Nat):Int)==1)=true by rfl,ct,zY,zF (by rw[Bk];omega)]
   have:=dJ (R:=R) (N:=N) (a:=Al (r+r)) (b:=[1]) (n:=(Al (r+r)).length) (m:=1) (t:=false) (o:=true) (t':=false) (o':=true) (K:=fun af ag=>If N (D4 N K (Ad a) a.length t o b.length (Ad b) C) K (Ad a) a.length t o b.length (i:Int) (Ad b) (Ad Q) af ag) rfl rfl (Ac _) (by intro x hx;simp at hx;omega) (I.le (by simp;omega))
   rw[Af,show val [1]=1 by rfl,show r+r+1=2*r+1 by omega]at this
   exact this.trans second
def Zc{N:Nat}{a b:List Nat}{n m:Nat}{t o t' o':Bool}{K:Nat->Nat->Bool->LA->LA->O R}(L:n=a.length)(hm:m=b.length)(T:Ag a)(hb:Ag b)(G:val b≠0)(D:fit (a.length+2*b.length+4) N):
  Ns N (Ad a) n t o (Ad b) m t' o' K=K (Al (val a/val b)).length (Al (val a%val b)).length true (Ad (Al (val a/val b))) (Ad (Al (val a%val b))):=by
 have h1:=D.1;have h2:=D.2
 have lb:=(A7 hb).2
 have Y:(Al (val b)).length≠0:=fun h=>G (Bb.1 h)
 rw[CT];unfold Uj
 dsimp only
 have long:Kj N K (Ad a) n t o (Al (val b)).length (Ad (Al (val b)))=K (Al (val a/val b)).length (Al (val a%val b)).length true (Ad (Al (val a/val b))) (Ad (Al (val a%val b))):=by
  obtain⟨nb,n1,n2,n3,n4,n5⟩:=lu (R:=R) (N:=N) (a:=a) (n:=n) (t:=false) (o:=o) L T (D.le (by omega))
  unfold Kj So
  rw[n5,L,qL (by omega),ct,Cy,i64 (by omega)]
  have hz:val a/2 ^ nb=0:=zw n2
  have:=PT (R:=R) (N:=N) (a:=a) (b:=Al (val b)) (t:=t) (o:=o) (B:=val b) T rfl (by omega) (D.le (by omega)) nb N (replicate a.length 0) 0 (by omega) n1 (Cb _) (by simp) (by rw[hz];simp) (by rw[hz,D3];simp) K
  exact this
 rw[C4 hm hb (D.le (by omega)),a_ Y,cf,Zb L T (D.le (by omega)),zY,zF (by rw[Bk];exact zE _)]
 by_cases C:val a<18446744073709551616
 ·rw[if_pos C,Zb rfl (Ac _) (D.le (by omega)),Af]
  by_cases k:val b<18446744073709551616
  ·have I:val a/val b<18446744073709551616:=zl (Aaw _ _) C
   have r64:val a%val b<18446744073709551616:=zl (Nat.mod_le _ _) C
   rw[if_pos k,show((true:Bool)==true)=true by rfl,ct,jT,ct,a_ G,cf,GW,G3 I,Uy I (by omega),cf,DD,Uy r64 (by omega)]
  ·rw[if_neg k,show((true:Bool)==true)=true by rfl,ct,jT,cf,long]
 ·rw[if_neg C,Zb rfl (Ac _) (D.le (by omega)),Af]
  by_cases k:val b<18446744073709551616
  ·rw[if_pos k,show((false:Bool)==true)=false by rfl,cf,long]
  ·rw[if_neg k,show((false:Bool)==true)=false by rfl,cf,long]
def oe{N:Nat}:∀(k C A B:Nat),k<C->A*B<2 ^ k->B<A->fit (3*(Al A).length+4) N->∀ K:Nat->LA->O R,Dg N K C (Al A).length (Al B).length (Ad (Al A)) (Ad (Al B))=K (Al (Nat.gcd A B)).length (Ad (Al (Nat.gcd A B))):=by
 have base:∀(C A:Nat)(K:Nat->LA->O R),Dg N K (C+1) (Al A).length (Al 0).length (Ad (Al A)) (Ad (Al 0))=K (Al (Nat.gcd A 0)).length (Ad (Al (Nat.gcd A 0))):=by
  intro C A K
  rw[Dg];unfold Lc
  rw[C6,show decide (((([]:List Nat).length:Nat):Int)>0)=false by decide,cf,Aa6]
 intro k
 induction k with
| zero =>
  intro C A B L D G I K
  obtain⟨C,rfl⟩:∃ F,C=F+1:=⟨C - 1,by omega⟩
  have T:B=0:=by
   rcases z6 B with h|h
   ·exact h
   ·have h3:=zW A (show 1<=B by omega)
    rw[Acx]at D;omega
  subst T
  exact base C A K
|succ k Y =>
  intro C A B L D G I K
  have h1:=I.1;have h2:=I.2
  obtain⟨C,rfl⟩:∃ F,C=F+1:=⟨C - 1,by omega⟩
  rcases z6 B with h|h
  ·subst h;exact base C A K
  have hll:=Bf (Aeh G)
  have hbl:(Al B).length≠0:=fun h0=>by have:=Bb.1 h0;omega
  have hm:=Aav A h
  have hh:=DG (show 1<=B by omega) (Aeh G)
  have:=Y C B (A%B) (by omega) (by rw[zR]at D;omega) hm (I.le (by omega)) K
  have hg:Nat.gcd B (A%B)=Nat.gcd A B:=by rw[Aak,<-Ad0,Aak]
  rw[hg]at this
  rw[Dg];unfold Lc
  rw[show decide ((((Al B).length:Nat):Int)>0)=true by rw[decide_eq_true_eq];omega,ct,zY,zY,zF (by rw[Bk];exact zE _),zF (by rw[Bk];exact zE _),Zc rfl rfl (Ac _) (Ac _) (by rw[Af];omega) (I.le (by omega)),Af,Af]
  exact this
def og{N:Nat}{a b:List Nat}{n m:Nat}{t o t' o':Bool}{K:Nat->LA->O R}(T:n=a.length)(Y:m=b.length)(D:Ag a)(G:Ag b)(C:fit (3*(a.length+b.length)+4) N):
  LQ N (Ad a) n t o (Ad b) m t' o' K=K (Al (Nat.gcd (val a) (val b))).length (Ad (Al (Nat.gcd (val a) (val b)))):=by
 have h1:=C.1;have h2:=C.2
 have la:=(A7 D).2
 have lb:=(A7 G).2
 have I:val a*val b<2 ^ (32*(a.length+b.length)):=by rw[<-jx];exact Aac (Be D) (Be G)
 rw[RX];unfold LP
 rw[C4 T D (C.le (by omega)),C4 Y G (C.le (by omega))]
 obtain⟨F,hF⟩:∃ F,N=F+1:=⟨N - 1,by omega⟩
 rcases z6 (val b)with h|h
 ·rw[h,C6,Aa6,hF,Dg];unfold Lc
  rw[show decide (((([]:List Nat).length:Nat):Int)>0)=false by decide,cf]
 ·have L:=Aav (val a) h
  have hbl:(Al (val b)).length≠0:=fun h0=>by have:=Bb.1 h0;omega
  have k:val b*(val a%val b)<2 ^ (32*(a.length+b.length)):=by
   have:val b*(val a%val b)<=val b*val a:=zW _ (Nat.mod_le _ _)
   rw[zH (val b) (val a)]at this;omega
  have:=oe (R:=R) (N:=N) (32*(a.length+b.length)) F (val b) (val a%val b) (by omega) k L (C.le (by omega)) K
  have hg:Nat.gcd (val b) (val a%val b)=Nat.gcd (val a) (val b):=by rw[Aak,<-Ad0,Aak]
  rw[hg]at this
  have e:Dg N K (F+1) (Al (val a)).length (Al (val b)).length (Ad (Al (val a))) (Ad (Al (val b)))=Dg N K F (Al (val b)).length (Al (val a%val b)).length (Ad (Al (val b))) (Ad (Al (val a%val b))):=by
   rw[Dg];unfold Lc
   rw[show decide ((((Al (val b)).length:Nat):Int)>0)=true by rw[decide_eq_true_eq];omega,ct,zY,zY,zF (by rw[Bk];exact zE _),zF (by rw[Bk];exact zE _),Zc rfl rfl (Ac _) (Ac _) (by rw[Af];omega) (C.le (by omega)),Af,Af]
  conv=>lhs;rw[show(Dg N K N)=Dg N K (F+1) by rw[<-hF]]
  rw[e];exact this
inductive LS where
|nil
|of (l:List Nat) (t o:Bool)
def LS.l:LS->List Nat
|.nil=>[]
|.of l _ _=>l
def LS.av:LS->AV
|.nil=>.nsl
|.of l t o=>.imm (Ad l) l.length 1 t o
def YY{s:LS}{r:LA}{f:LA->Nat->O R}:D6 1 (s.av::r) f=f (Ad s.l) s.l.length:=by cases s<;>simp[D6,LS.av,LS.l,pR,Ad]
def tP{b:Bool}{r:LA}{f:Bool->O R}:Zu (.bool b::r) f=f b:=by simp[Zu,asBool]
def Ji(neg:Bool)(s:LS):LA:=[.bool neg,s.av]
def Ar(neg:Bool)(s:LS):Int:=if neg then -(val s.l:Int)else(val s.l:Int)
def B6(neg:Bool)(s:LS):(Ar neg s).natAbs=val s.l:=by unfold Ar;cases neg<;>simp
def Vp{neg:Bool}{s:LS}{f:Bool->O R}:Zu (Ji neg s) f=f neg:=tP
def Qv{neg:Bool}{s:LS}{f:LA->Nat->O R}:D6 1 (drop 1 (Ji neg s)) f=f (Ad s.l) s.l.length:=by rw[Ji,Abu,zy,YY]
def Jj{N:Nat}{c:Bool}{a:Nat}{b:LA}{K:Bool->O R}:H8 N c a b K=K (c&&decide (0<a)):=by
 rw[FQ];unfold HR
 cases c<;>simp
def Rh{z:Int}{c:Bool}{m:Nat}(h:z=if c then -(m:Int)else(m:Int)):(c&&decide (0<(Al m).length))=decide (z<0)/\z.natAbs=m:=by
 have D:z.natAbs=m:=by rw[h];cases c<;>simp
 refine⟨?_,D⟩
 by_cases C:m=0
 ·subst C;rw[h,C6];cases c<;>simp
 ·have:0<(Al m).length:=by
   rcases z6 (Al m).length with k|k
   ·exact absurd (Bb.1 k) C
   ·exact k
  rw[h];cases c<;>simp[this]<;>omega
def bB{N:Nat}{v:Int}(I:-9223372036854775808<=v/\v<=9223372036854775807)(hN:4<=N):∃ S,Ag S/\val S=v.natAbs/\∀ K:Bool->Nat->LA->O R,Xw N v K=K (decide (v<0)) (Al v.natAbs).length (Ad S):=by
 have D:v.natAbs<18446744073709551616:=by omega
 obtain⟨S,s1,s2,C⟩:=Hn (R:=R) (N:=N) D hN
 refine⟨S,s1,s2,fun K=>?_⟩
 rw[BT];unfold BS
 by_cases h:v<0
 ·have e:wrap .u64 ((0:Int) - wrap .u64 v)=(v.natAbs:Int):=by rw[HP,HP];omega
  rw[decide_eq_true h,ct,e,C,Jj]
  have G:v.natAbs≠0:=by omega
  have:0<(Al v.natAbs).length:=by
   rcases z6 (Al v.natAbs).length with k|k
   ·exact absurd (Bb.1 k) G
   ·exact k
  simp[this]
 ·have e:wrap .u64 v=(v.natAbs:Int):=by rw[HP];omega
  rw[decide_eq_false h,cf,e,C,Jj];rfl
def JA{N:Nat}{neg:Bool}{s:LS}{o:Bool}{K:Int->O R}(hs:Ag s.l)(k:fit s.l.length N):EI N (Ji neg s) o K=K (Ar neg s).sign:=by
 rw[RN];unfold WU
 rw[Qv,YR rfl hs k]
 unfold Ar
 by_cases h:val s.l=0
 ·rw[h,Rf,show((0:Int)==0)=true by rfl,ct];cases neg<;>rfl
 ·have:Fq (val s.l) 0=1:=by unfold Fq;rw[if_neg (by omega),if_pos (by omega)]
  rw[this,show((1:Int)==0)=false by rfl,cf,Vp]
  cases neg
  ·rw[cf];simp only[Aa0,if_false]
   congr 1
   rw[Aat];omega
  ·rw[ct];simp only[if_true]
   congr 1
   rw[zn];omega
def W8{N:Nat}{n1 n2:Bool}{s1 s2:LS}{o1 o2:Bool}(C:Ag s1.l)(D:Ag s2.l)(G:fit (s1.l.length+s2.l.length) N):∃ S,Ag S/\val S=(Ar n1 s1*Ar n2 s2).natAbs/\∀ K:Bool->Nat->LA->O R,B_ N (Ji n1 s1) o1 (Ji n2 s2) o2 K=K (decide (Ar n1 s1*Ar n2 s2<0)) (Al (Ar n1 s1*Ar n2 s2).natAbs).length (Ad S):=by
 obtain⟨S,a1,a2,a3⟩:=DC (R:=R) (N:=N) (a:=s1.l) (b:=s2.l) (t:=false) (o:=o1) (t':=false) (o':=o2) rfl rfl C D G
 have I:Ar n1 s1*Ar n2 s2=if (!(n1==n2))then -((val s1.l*val s2.l:Nat):Int)else((val s1.l*val s2.l:Nat):Int):=by
  unfold Ar;cases n1<;>cases n2<;>simp[Int.mul_neg,Int.neg_mul]
 obtain⟨c1,k⟩:=Rh I
 refine⟨S,a1,by rw[a2,k],fun K=>?_⟩
 rw[WM];unfold f9
 rw[Vp,Vp,Qv,Qv,a3,Jj,c1,k]
def dL{N:Nat}{n1 n2:Bool}{s1 s2:LS}{o1 o2:Bool}(G:Ag s1.l)(I:Ag s2.l)(L:fit (s1.l.length+s2.l.length+1) N):∃ S,Ag S/\val S=(Ar n1 s1+Ar n2 s2).natAbs/\∀ K:Bool->Nat->LA->O R,WX N (Ji n1 s1) o1 (Ji n2 s2) o2 K=K (decide (Ar n1 s1+Ar n2 s2<0)) (Al (Ar n1 s1+Ar n2 s2).natAbs).length (Ad S):=by
 by_cases T:n1=n2
 ·subst T
  obtain⟨S,a1,a2,a3⟩:=qk (R:=R) (N:=N) (a:=s1.l) (b:=s2.l) (t:=false) (o:=o1) (t':=false) (o':=o2) rfl rfl G I L
  have C:Ar n1 s1+Ar n1 s2=if n1 then -((val s1.l+val s2.l:Nat):Int)else((val s1.l+val s2.l:Nat):Int):=by
   unfold Ar;cases n1<;>simp;omega
  obtain⟨c1,k⟩:=Rh C
  refine⟨S,a1,by rw[a2,k],fun K=>?_⟩
  rw[X8];unfold KV
  rw[Vp,Vp,show(n1==n1)=true by simp,ct,Vp,Qv,Qv,a3,Jj,c1,k]
 ·have D:(n1==n2)=false:=by simp[T]
  by_cases Y:val s2.l<=val s1.l
  ·obtain⟨S,a1,a2,a3⟩:=YU (R:=R) (N:=N) (a:=s1.l) (b:=s2.l) (t:=false) (o:=o1) (t':=false) (o':=o2) rfl rfl G I (L.le (by omega)) Y
   have C:Ar n1 s1+Ar n2 s2=if n1 then -((val s1.l - val s2.l:Nat):Int)else((val s1.l - val s2.l:Nat):Int):=by
    unfold Ar;cases n1<;>cases n2<;>simp at T ⊢<;>omega
   obtain⟨c1,k⟩:=Rh C
   refine⟨S,a1,by rw[a2,k],fun K=>?_⟩
   rw[X8];unfold KV
   rw[Vp,Vp,D,cf,Qv,Qv,a3,ct,Vp,Jj,c1,k]
  ·obtain⟨S,a1,a2,a3⟩:=YU (R:=R) (N:=N) (a:=s2.l) (b:=s1.l) (t:=false) (o:=o2) (t':=false) (o':=o1) rfl rfl I G (L.le (by omega)) (by omega)
   have C:Ar n1 s1+Ar n2 s2=if n2 then -((val s2.l - val s1.l:Nat):Int)else((val s2.l - val s1.l:Nat):Int):=by
    unfold Ar;cases n1<;>cases n2<;>simp at T ⊢<;>omega
   obtain⟨c1,k⟩:=Rh C
   refine⟨S,a1,by rw[a2,k],fun K=>?_⟩
   rw[X8];unfold KV
   rw[Vp,Vp,D,cf,Qv,Qv,ql rfl rfl G I (L.le (by omega)) (by omega),cf,Qv,Qv,a3,Vp,Jj,c1,k]
def lv{N:Nat}{n1:Bool}{s1:LS}{o1:Bool}{K:Bool->Nat->LA->O R}(k:Ag s1.l)(C:fit s1.l.length N):UC N (Ji n1 s1) o1 K=K (decide (Ar n1 s1<0)) (Al (Ar n1 s1).natAbs).length (Ad (Al (Ar n1 s1).natAbs)):=by
 obtain⟨c1,D⟩:=Rh (z:=Ar n1 s1) (c:=n1) (m:=val s1.l) (by unfold Ar;cases n1<;>simp)
 rw[RL];unfold WP
 rw[Vp,Qv,EQ rfl k C,Jj,c1,D]
def MV(x y:Int):Int:=if x<y then -1 else if y<x then 1 else 0
def rD(x y:Nat):MV (x:Int) (y:Int)=Fq x y:=by unfold MV Fq;simp
def rE(x y:Nat):MV (-(x:Int)) (-(y:Int))=Fq y x:=by
 unfold MV Fq
 by_cases h:y<x
 ·rw[if_pos (by omega),if_pos h]
 ·rw[if_neg (by omega),if_neg h]
  by_cases k:x<y
  ·rw[if_pos (by omega),if_pos k]
  ·rw[if_neg (by omega),if_neg k]
def bC{N:Nat}{n1 n2:Bool}{s1 s2:LS}{o1 o2:Bool}{K:Int->O R}(D:Ag s1.l)(G:Ag s2.l)(C:fit (s1.l.length+s2.l.length) N):Yb N (Ji n1 s1) o1 (Ji n2 s2) o2 K=K (MV (Ar n1 s1) (Ar n2 s2)):=by
 rw[CK];unfold CJ
 have l2:∀ n s,take 2 (Ji n s)=Ji n s:=fun n s=>rfl
 have l3:∀ n s,ble 2 (List.length (Ji n s))=true:=fun n s=>rfl
 rw[l2,l2,l3,l3,ct,JA D (C.le (by omega)),ct,JA G (C.le (by omega))]
 have sg:∀ z:Int,z.sign=if z<0 then -1 else if 0<z then 1 else 0:=by
  intro z
  rcases Ab2 z 0 with h|h|h
  ·rw[zn h,if_pos h]
  ·subst h;rfl
  ·rw[Aat h,if_neg (by omega),if_pos h]
 by_cases c1:(Ar n1 s1).sign<(Ar n2 s2).sign
 ·rw[decide_eq_true c1,ct]
  rw[sg,sg]at c1
  unfold MV;rw[if_pos]
  split at c1<;>split at c1<;>(try split at c1)<;>(try split at c1)<;>omega
 ·rw[decide_eq_false c1,cf]
  by_cases k:(Ar n1 s1).sign>(Ar n2 s2).sign
  ·rw[decide_eq_true k,ct]
   rw[sg,sg]at k
   unfold MV;rw[if_neg,if_pos]
   ·split at k<;>split at k<;>(try split at k)<;>(try split at k)<;>omega
   ·split at k<;>split at k<;>(try split at k)<;>(try split at k)<;>omega
  ·rw[decide_eq_false k,cf]
   have L:(Ar n1 s1).sign=(Ar n2 s2).sign:=by omega
   by_cases c3:(Ar n1 s1).sign<0
   ·rw[decide_eq_true c3,ct,Qv,Qv,Lf rfl rfl G D (C.le (by omega))]
    have p1:Ar n1 s1<0:=by rw[sg]at c3;split at c3;assumption;split at c3<;>omega
    have p2:Ar n2 s2<0:=by rw[L,sg]at c3;split at c3;assumption;split at c3<;>omega
    have e1:Ar n1 s1=-(val s1.l:Int):=by unfold Ar at p1 ⊢;cases n1<;>simp at p1 ⊢;omega
    have I:Ar n2 s2=-(val s2.l:Int):=by unfold Ar at p2 ⊢;cases n2<;>simp at p2 ⊢;omega
    rw[e1,I,rE]
   ·rw[decide_eq_false c3,cf,Qv,Qv,Lf rfl rfl D G (C.le (by omega))]
    have p1:0<=Ar n1 s1:=by
     apply Int.not_lt.1;intro h;rw[zn h]at c3;omega
    have p2:0<=Ar n2 s2:=by
     apply Int.not_lt.1;intro h;rw[L,zn h]at c3;omega
    have e1:Ar n1 s1=(val s1.l:Int):=by have:=B6 n1 s1;omega
    have I:Ar n2 s2=(val s2.l:Int):=by have:=B6 n2 s2;omega
    rw[e1,I,rD]
def YZ(z:Int)(d:Nat)(D:d≠0):(mkRat z d).num.natAbs=z.natAbs/Nat.gcd z.natAbs d/\((mkRat z d).num<0↔z<0)/\(mkRat z d).den=d/Nat.gcd z.natAbs d:=by
 have G:0<Nat.gcd z.natAbs d:=Abs _ (by omega)
 rw[Ae5,Ae3,if_neg D,if_neg D,Aak d]
 have k:((Nat.gcd z.natAbs d:Nat):Int)∣z:=Int.dvd_natAbs.1 (Int.natCast_dvd_natCast.2 (Abe _ _))
 obtain⟨c,hc⟩:=k
 have I:z.natAbs.gcd d=Nat.gcd z.natAbs d:=rfl
 generalize Nat.gcd z.natAbs d=g at *
 refine⟨?_,?_,rfl⟩
 ·rw[hc,Abr _ (by omega),Abl,zm,Aec _ G]
 ·rw[hc,Abr _ (by omega)]
  constructor
  ·intro h;exact Int.mul_neg_of_pos_of_neg (by omega) h
  ·intro h;rcases Int.lt_or_le c 0 with C|C
   ·exact C
   ·have:=Int.mul_nonneg (show(0:Int)<=g by omega) C;omega
structure RatD where
 neg:Bool
 ns:LS
 ds:LS
def RatD.av(x:RatD):LA:=[.bool x.neg,x.ns.av,x.ds.av]
def RatD.ok(x:RatD):Prop:=Ag x.ns.l/\Ag x.ds.l
def RatD.m(x:RatD):Nat:=max x.ns.l.length x.ds.l.length
def RatD.q(x:RatD):Rat:=mkRat (Ar x.neg x.ns) (val x.ds.l)
def RatD.can(x:RatD)(q:Rat):Prop:=x.neg=decide (q.num<0)/\x.ns.l=Al q.num.natAbs/\x.ds.l=Al q.den
def qm(q:Rat):Nat:=max (Al q.num.natAbs).length (Al q.den).length
def RatD.can.ok{x:RatD}{q:Rat}(h:x.can q):x.ok:=⟨by rw[h.2.1];exact Ac _,by rw[h.2.2];exact Ac _⟩
def RatD.can.m{x:RatD}{q:Rat}(h:x.can q):x.m=qm q:=by unfold RatD.m qm;rw[h.2.1,h.2.2]
def RatD.can.q{x:RatD}{q:Rat}(h:x.can q):x.q=q:=by
 unfold RatD.q Ar
 rw[h.1,h.2.1,h.2.2,Af,Af]
 have:(if decide (q.num<0)=true then -(q.num.natAbs:Int)else(q.num.natAbs:Int))=q.num:=by
  by_cases k:q.num<0
  ·rw[if_pos (by simpa using k)];omega
  ·rw[if_neg (by simpa using k)];omega
 rw[this,Rat.mkRat_self]
def uX{x:RatD}{f:Bool->O R}:Zu x.av f=f x.neg:=tP
def oh{x:RatD}{f:LA->Nat->O R}:D6 1 (drop 1 x.av) f=f (Ad x.ns.l) x.ns.l.length:=by rw[RatD.av,Abu,zy,YY]
def Y_{x:RatD}{f:LA->Nat->O R}:D6 1 (drop 2 x.av) f=f (Ad x.ds.l) x.ds.l.length:=by rw[RatD.av,Abu,Abu,zy,YY]
def Mq(x:RatD):ble 3 (List.length x.av)=true:=rfl
def Gk(x:RatD):take 3 x.av=x.av:=rfl
def tQ(x:RatD):take 2 x.av=Ji x.neg x.ns:=rfl
def vr(x:RatD):beq (List.length x.av) 3=true:=rfl
def GX(n:Bool)(s:LS):((beq 0 0)&&((beq (List.length (Ji n s)) 2)&&(beq 2 2)))=true:=rfl
def JB(n:Bool)(s:LS):ble 2 (List.length (Ji n s))=true:=rfl
def bA(n:Bool)(s:LS):take 2 (Ji n s)=Ji n s:=rfl
def rF:([.int .u32 1]:LA)=Ad [1]:=rfl
def oi:Ag [1]:=by intro x k;simp at k;omega
def Qw:Al 1=[1]:=by rw[Xt (by omega)];simp[C6]
def Dk{v:Nat}{S:List Nat}(k:Ag S)(C:val S=v):take ((Al v).length*1) (Ad S)=Ad (Al v):=by rw[<-C,Ia k]
def ol(neg:Bool)(l:List Nat)(t o:Bool):([.bool neg,.imm (Ad l) l.length 1 t o]:LA)=Ji neg (.of l t o):=rfl
def Mm{z:Int}{t o:Bool}:Ar (decide (z<0)) (.of (Al z.natAbs) t o)=z:=by
 unfold Ar LS.l;rw[Af]
 by_cases h:z<0
 ·rw[if_pos (by simpa using h)];omega
 ·rw[if_neg (by simpa using h)];omega
def bD{N:Nat}{v:Int}(k:-9223372036854775808<=v/\v<=9223372036854775807)(hN:4<=N):∃ d:RatD,d.can (v:Rat)/\∀ K:LA->O R,A4 N v K=K d.av:=by
 obtain⟨S,s1,s2,C⟩:=bB (R:=R) (N:=N) k hN
 refine⟨⟨decide (v<0),.of (Al v.natAbs) false false,.of (Al 1) false false⟩,⟨rfl,rfl,rfl⟩,fun K=>?_⟩
 rw[BV];unfold BU
 rw[C,Dk s1 s2,Qw];rfl
def Jk{N:Nat}{x:RatD}{o:Bool}(C:x.ok)(I:fit x.m N):∃(neg:Bool)(s:LS)(l:List Nat)(o1 o2:Bool),Ag s.l/\Ag l/\val l≠0/\s.l.length<=x.m/\l.length<=max x.m 1/\mkRat (Ar neg s) (val l)=x.q/\∀ K:LA->Bool->LA->Nat->Bool->O R,I0 N x.av o K=K (Ji neg s) o1 (Ad l) l.length o2:=by
 have D:x.ns.l.length<=x.m:=Ab0 _ _
 have k:x.ds.l.length<=x.m:=Acd _ _
 by_cases G:val x.ds.l=0
 ·refine⟨false,.nil,[1],false,false,Nc,oi,by decide,by simp[LS.l],by simp;omega,?_,fun K=>?_⟩
  ·unfold RatD.q;rw[G];simp[Ar,LS.l,val]
  ·rw[X0];unfold EB
   rw[Y_,YR rfl C.2 (I.le k),G,Rf];rfl
 ·refine⟨x.neg,x.ns,x.ds.l,o,o,C.1,C.2,G,D,by omega,rfl,fun K=>?_⟩
  have:Fq (val x.ds.l) 0=1:=by unfold Fq;rw[if_neg (by omega),if_pos (by omega)]
  rw[X0];unfold EB
  rw[Y_,YR rfl C.2 (I.le k),this,show((1:Int)==0)=false by rfl,cf,show ble 2 (List.length x.av)=true by rfl,ct,Y_,tQ,GX,ct,JB,ct,bA]
def vu(z:Int)(d:Nat)(k:d≠0):(mkRat z d).num.sign=z.sign:=by
 obtain⟨D,C,_⟩:=YZ z d k
 rcases Ab2 z 0 with h|h|h
 ·rw[zn h,zn (C.2 h)]
 ·subst h;simp
 ·have G:¬ (mkRat z d).num<0:=fun hh=>by have:=C.1 hh;omega
  have I:(mkRat z d).num≠0:=fun hh=>by
   have:mkRat z d=0:=Adh.1 hh
   rw[Rat.mkRat_eq_zero k]at this;omega
  rw[Aat h,Aat (by omega)]
def Gh{N:Nat}{x:RatD}{o:Bool}{K:Int->O R}(C:x.ok)(k:fit x.m N):Lz N x.av o K=K x.q.num.sign:=by
 obtain⟨neg,s,l,o1,o2,p1,p2,D,G,T,I,L⟩:=Jk (R:=R) (o:=o) C k
 rw[RO];unfold WV
 rw[Mq,ct,Gk,L,GX,ct,JB,ct,bA,JA p1 (k.le G),<-I,vu _ _ D]
def Gi{N:Nat}{x:RatD}{o:Bool}(C:x.ok)(D:fit x.m N):(∃(n:Int)(d:Nat),-2147483648<n/\n<2147483648/\0<d/\d<2147483648/\mkRat n d=x.q/\∀ K:Int->Int->Bool->O R,Fj N x.av o K=K n (d:Int) true)\/(∀ K:Int->Int->Bool->O R,Fj N x.av o K=K 0 0 false):=by
 have G:x.ns.l.length<=x.m:=Ab0 _ _
 have k:x.ds.l.length<=x.m:=Acd _ _
 by_cases h1:val x.ns.l<2147483648
 ·by_cases Y:val x.ds.l<2147483648
  ·left
   have e:∀ K:Int->Int->Bool->O R,Fj N x.av o K=Eb N K (val x.ns.l:Int) (val x.ds.l:Int) o x.av false:=by
    intro K
    rw[Qa];unfold Ra
    rw[oh,Jh rfl C.1 (D.le G),if_pos (by omega),Y_,Jh rfl C.2 (D.le k),if_pos (by omega)]
    rw[show((!true)==false)=true by rfl,ct,show((cond false true (!true))==false)=true by rfl,ct,show decide (((val x.ns.l:Nat):Int)>=2147483648)=false by rw[decide_eq_false_iff_not];omega,show((cond false true false)==false)=true by rfl,ct,show decide (((val x.ds.l:Nat):Int)>=2147483648)=false by rw[decide_eq_false_iff_not];omega]
    rfl
   by_cases L:val x.ds.l=0
   ·refine⟨0,1,by omega,by omega,by omega,by omega,by unfold RatD.q;rw[L];simp,fun K=>?_⟩
    rw[e];unfold Eb
    rw[cf,yP L,ct];rfl
   ·have hn:=B6 x.neg x.ns
    refine⟨Ar x.neg x.ns,val x.ds.l,by omega,by omega,by omega,Y,rfl,fun K=>?_⟩
    rw[e];unfold Eb
    rw[cf,a_ L,cf,uX,i64 (a:=((val x.ns.l:Nat):Int)) (by omega),i64 (a:=((val x.ds.l:Nat):Int)) (by omega)]
    unfold Ar
    cases x.neg
    ·rfl
    ·rw[ct,i64 (by omega),Int.zero_sub];rfl
  ·right
   intro K
   rw[Qa];unfold Ra
   rw[oh,Jh rfl C.1 (D.le G),if_pos (by omega),Y_,Jh rfl C.2 (D.le k),show((!true)==false)=true by rfl]
   by_cases I:val x.ds.l<18446744073709551616
   ·rw[if_pos I,ct,show((cond false true (!true))==false)=true by rfl,ct,show decide (((val x.ns.l:Nat):Int)>=2147483648)=false by rw[decide_eq_false_iff_not];omega,show((cond false true false)==false)=true by rfl,ct,show decide (((val x.ds.l:Nat):Int)>=2147483648)=true by rw[decide_eq_true_eq];omega]
    unfold Eb;rfl
   ·rw[if_neg I,ct,show((cond false true (!false))==false)=false by rfl,cf]
    unfold Eb;rfl
 ·right
  intro K
  rw[Qa];unfold Ra
  rw[oh,Jh rfl C.1 (D.le G)]
  by_cases I:val x.ns.l<18446744073709551616
  ·rw[if_pos I,Y_,Jh rfl C.2 (D.le k),show((!true)==false)=true by rfl,show decide (((val x.ns.l:Nat):Int)>=2147483648)=true by rw[decide_eq_true_eq];omega]
   by_cases T:val x.ds.l<18446744073709551616
   ·rw[if_pos T,ct,show((cond false true (!true))==false)=true by rfl,ct]
    unfold Eb;rfl
   ·rw[if_neg T,ct,show((cond false true (!false))==false)=false by rfl,cf]
    unfold Eb;rfl
  ·rw[if_neg I,Y_,Jh rfl C.2 (D.le k),show((!false)==false)=false by rfl]
   split<;>(rw[cf];unfold Eb;rfl)
def dM{N:Nat}{a b c:Nat}{s:Int}(hN:4<=N)(ha:a<18446744073709551616)(hb:b<9223372036854775808)(hg0:0<c)(hga:c∣a):∀(k C x y:Nat),k<C->x*y<2 ^ k->y<=x->Nat.gcd x y=c->∃ d:RatD,d.neg=decide (s<0)/\d.ns.l=Al (a/c)/\d.ds.l=Al (b/c)/\∀ K:LA->O R,Ca N K s (b:Int) (a:Int) C (x:Int) (y:Int)=K d.av:=by
 have base:∀(C:Nat),∃ d:RatD,d.neg=decide (s<0)/\d.ns.l=Al (a/c)/\d.ds.l=Al (b/c)/\∀ K:LA->O R,Ca N K s (b:Int) (a:Int) (C+1) (c:Int) ((0:Nat):Int)=K d.av:=by
  intro C
  have T:a/c<18446744073709551616:=zl (Aaw _ _) ha
  have Y:b/c<18446744073709551616:=zl (Aaw _ _) (by omega)
  obtain⟨S1,s1,s2,s3⟩:=Hn (R:=R) (N:=N) T hN
  obtain⟨S2,t1,t2,t3⟩:=Hn (R:=R) (N:=N) Y hN
  refine⟨⟨decide (s<0),.of (Al (a/c)) false false,.of (Al (b/c)) false false⟩,rfl,rfl,rfl,fun K=>?_⟩
  rw[Ca];unfold Ht
  rw[show(((0:Nat):Int) != 0)=false by rfl,cf,a_ (by omega),cf,GW,G3 T,s3,cf,G3 (show b<18446744073709551616 by omega),GW,G3 Y,t3,Dk s1 s2,Dk t1 t2];rfl
 intro k
 induction k with
| zero =>
  intro C x y hf D I G
  obtain⟨C,rfl⟩:∃ F,C=F+1:=⟨C - 1,by omega⟩
  have hy:y=0:=by
   rcases z6 y with h|h
   ·exact h
   ·have h3:=zW x (show 1<=y by omega)
    rw[Acx]at D;omega
  subst hy
  rw[Aa6]at G;subst G
  exact base C
| succ k ih =>
  intro C x y hf D I G
  obtain⟨C,rfl⟩:∃ F,C=F+1:=⟨C - 1,by omega⟩
  rcases z6 y with h|h
  ·subst h;rw[Aa6]at G;subst G;exact base C
  ·have hh:=DG (show 1<=y by omega) I
   have hm:=Aav x h
   have L:Nat.gcd y (x%y)=Nat.gcd x y:=by rw[Aak,<-Ad0,Aak]
   obtain⟨d,d1,d2,d3,d4⟩:=ih C y (x%y) (by omega) (by rw[zR]at D;omega) (by omega) (by rw[L,G])
   refine⟨d,d1,d2,d3,fun K=>?_⟩
   rw[Ca];unfold Ht
   rw[show((y:Int) != 0)=true by rw[bne_iff_ne];omega,ct,a_ (by omega),cf,DD]
   exact d4 K
def Vq{N:Nat}{s:Int}{b:Nat}(hs:-9223372036854775808<=s/\s<=9223372036854775807)(G:0<b)(hb:b<9223372036854775808)(hN:1000<=N):∃ d:RatD,d.can (mkRat s b)/\∀ K:LA->O R,G6 N s (b:Int) K=K d.av:=by
 obtain⟨m1,m2,m3⟩:=YZ s b (by omega)
 have k:∀ d:RatD,d.neg=decide (s<0)->d.ns.l=Al (s.natAbs/Nat.gcd s.natAbs b)->d.ds.l=Al (b/Nat.gcd s.natAbs b)->d.can (mkRat s b):=by
  intro d h1 h2 h3
  exact⟨by rw[h1];congr 1;exact propext m2.symm,by rw[h2,m1],by rw[h3,m3]⟩
 have D:s.natAbs<18446744073709551616:=by omega
 have start:∀ K:LA->O R,G6 N s (b:Int) K=Ca N K s (b:Int) (s.natAbs:Int) N (b:Int) (s.natAbs:Int):=by
  intro K
  rw[Zv];unfold Qb Lr O0
  dsimp only
  by_cases h:s<0
  ·have e:wrap .u64 ((0:Int) - wrap .u64 s)=(s.natAbs:Int):=by rw[HP,HP];omega
   rw[decide_eq_true h,ct,e,G3 (by omega)]
  ·have e:wrap .u64 s=(s.natAbs:Int):=by rw[HP];omega
   rw[decide_eq_false h,cf,e,G3 (by omega)]
 have C:0<Nat.gcd s.natAbs b:=Abs _ G
 by_cases I:s.natAbs<=b
 ·obtain⟨d,L,T,Y,d4⟩:=dM (R:=R) (N:=N) (a:=s.natAbs) (b:=b) (c:=Nat.gcd s.natAbs b) (s:=s) (by omega) D hb C (Abe _ _) 128 N b s.natAbs (by omega) (by
   have:=Aac (show b<18446744073709551616 by omega) D;exact this) I (Aak _ _)
  exact⟨d,k d L T Y,fun K=>by rw[start,d4]⟩
 ·obtain⟨F,hF⟩:∃ F,N=F+1:=⟨N - 1,by omega⟩
  obtain⟨d,L,T,Y,d4⟩:=dM (R:=R) (N:=N) (a:=s.natAbs) (b:=b) (c:=Nat.gcd s.natAbs b) (s:=s) (by omega) D hb C (Abe _ _) 128 F s.natAbs (b%s.natAbs) (by omega) (by
   rw[zf (by omega)]
   have:=Aac D (show b<18446744073709551616 by omega);exact this) (by rw[zf (by omega)];omega) (by rw[zf (by omega)])
  refine⟨d,k d L T Y,fun K=>?_⟩
  rw[start,<-d4 K]
  conv=>lhs;rw[show(Ca N K s (b:Int) (s.natAbs:Int) N)=Ca N K s (b:Int) (s.natAbs:Int) (F+1) by rw[<-hF]]
  rw[Ca];unfold Ht
  rw[show((s.natAbs:Int) != 0)=true by rw[bne_iff_ne];omega,ct,a_ (by omega),cf,DD]
def s6{S:List Nat}{g:Nat}(D:Ag S)(G:val S=g)(C:(Al g).length=1){f:Int->O R}:Am .u32 (Ad S) f=f (g:Int):=by
 have I:=(A7 D).2
 rw[G,C]at I
 have k:=jU D
 rw[G,C]at k
 obtain⟨a,L⟩:∃ a,Al g=[a]:=by
  match h:Al g,C with
  |[a],_=>exact⟨a,rfl⟩
 have T:a=g:=by have:=Af g;rw[L]at this;simpa[val]using this
 rw[L,T]at k
 match S,I,k with
|x::r,_,k =>
  simp at k;subst k
  rw[Q9,Az]
def Uz{N:Nat}{neg:Bool}{s:LS}{l:List Nat}{n:Nat}{o t o':Bool}(hn:n=l.length)(hs:Ag s.l)(hl:Ag l)(I:val l≠0)(C:fit (2*(s.l.length+l.length)+8) N):
  ∃ d:RatD,d.can (mkRat (Ar neg s) (val l))/\∀ K:LA->O R,K8 N (Ji neg s) o (Ad l) n t o' K=K d.av:=by
 obtain⟨m1,m2,m3⟩:=YZ (Ar neg s) (val l) I
 have L:=B6 neg s
 have ls:=(A7 hs).2
 have ll:=(A7 hl).2
 generalize hz:Ar neg s=z at *
 have start:∀ K:LA->O R,K8 N (Ji neg s) o (Ad l) n t o' K=cond ((((Al z.natAbs).length:Nat):Int)==(0:Int)) (K [.bool false,.nsl,.imm [.int .u32 1] 1 1 false false]) (IG N (Ad (Al z.natAbs)) (Al z.natAbs).length false true (Ad (Al (val l))) (Al (val l)).length false true fun f g=>cond (((f:Int) != (1:Int))==false) (cond (Ab (0:Int) f) (Am .u32 g fun y=>cond (cond false true (y != (1:Int))) (Ej N (Ad (Al z.natAbs)) (Al z.natAbs).length false true (take (f*1) g) f false true fun p ae af z2 ag=>Ej N (Ad (Al (val l))) (Al (val l)).length false true (take (f*1) g) f false true fun q ah ai aa aj=>K [.bool (decide (z<0)),.imm (take (p*1) z2) p 1 false false,.imm (take (q*1) aa) q 1 false false]) (K [.bool (decide (z<0)),.imm (Ad (Al z.natAbs)) (Al z.natAbs).length 1 false false,.imm (Ad (Al (val l))) (Al (val l)).length 1 false false])) none) (Ej N (Ad (Al z.natAbs)) (Al z.natAbs).length false true (take (f*1) g) f false true fun r ak al ab am=>Ej N (Ad (Al (val l))) (Al (val l)).length false true (take (f*1) g) f false true fun s an ao ac ap=>K [.bool (decide (z<0)),.imm (take (r*1) ab) r 1 false false,.imm (take (s*1) ac) s 1 false false])):=by
  intro K
  rw[GB];unfold IH
  have tk:∀ v:Nat,take ((Al v).length*1) (Ad (Al v))=Ad (Al v):=fun v=>Dk (Ac _) (Af v)
  rw[Vp,Qv,show beq (List.length (Ji neg s)) 2=true by rfl,ct,ol,lv (s1:=.of s.l false o) hs (C.le (by simp[LS.l];omega)),show Ar neg (.of s.l false o)=z by rw[<-hz];rfl,EQ hn hl (C.le (by omega)),tk,tk]
 by_cases h0:z=0
 ·refine⟨⟨false,.nil,.of [1] false false⟩,?_,fun K=>?_⟩
  ·rw[h0];simp only[Rat.zero_mkRat]
   exact⟨rfl,rfl,Qw.symm⟩
  ·rw[start,h0];rfl
 ·have T:z.natAbs≠0:=by omega
  have D:(Al z.natAbs).length≠0:=fun h=>T (Bb.1 h)
  have hg0:0<Nat.gcd z.natAbs (val l):=Abs _ (by omega)
  have lz:(Al z.natAbs).length<=s.l.length:=by rw[L];exact ls
  obtain⟨G,g1,Y,g3⟩:=qz (R:=R) (N:=N) (a:=Al z.natAbs) (b:=Al (val l)) (t:=false) (o:=true) (t':=false) (o':=true) rfl rfl (Ac _) (Ac _) (C.le (by omega))
  rw[Af,Af]at Y g3
  have lg:(Al (Nat.gcd z.natAbs (val l))).length<=l.length:=Aal (Bf (Nat.gcd_le_right _ (by omega))) ll
  obtain⟨Q1,R1,a1,a2,a3,a4,a5⟩:=DF (R:=R) (N:=N) (a:=Al z.natAbs) (b:=Al (Nat.gcd z.natAbs (val l))) (t:=false) (o:=true) (t':=false) (o':=true) rfl rfl (Ac _) (Ac _) (by rw[Af];omega) (C.le (by omega))
  obtain⟨Q2,R2,b1,b2,b3,b4,b5⟩:=DF (R:=R) (N:=N) (a:=Al (val l)) (b:=Al (Nat.gcd z.natAbs (val l))) (t:=false) (o:=true) (t':=false) (o':=true) rfl rfl (Ac _) (Ac _) (by rw[Af];omega) (C.le (by omega))
  rw[Af,Af]at a2 a5 b2 b5
  have hn2:decide (z<0)=decide ((mkRat z (val l)).num<0):=by congr 1;exact propext m2.symm
  refine⟨⟨decide (z<0),.of (Al (z.natAbs/Nat.gcd z.natAbs (val l))) false false,.of (Al (val l/Nat.gcd z.natAbs (val l))) false false⟩,⟨hn2,by rw[m1];rfl,by rw[m3];rfl⟩,fun K=>?_⟩
  rw[start,a_ D,cf,g3,Dk g1 Y]
  by_cases k:(Al (Nat.gcd z.natAbs (val l))).length=1
  ·rw[show(((((Al (Nat.gcd z.natAbs (val l))).length:Nat):Int) != (1:Int))==false)=true by rw[k];rfl,ct,show Ab 0 (Al (Nat.gcd z.natAbs (val l))).length=true by rw[k];rfl,ct,s6 g1 Y k]
   by_cases he:Nat.gcd z.natAbs (val l)=1
   ·rw[he,show(cond false true (((1:Nat):Int) != 1))=false by rfl,cf,Afr,Afr];rfl
   ·rw[show(cond false true (((Nat.gcd z.natAbs (val l):Nat):Int) != 1))=true by(show(((Nat.gcd z.natAbs (val l):Nat):Int) != 1)=true;rw[bne_iff_ne];omega),ct,a5,b5,Dk a1 a2,Dk b1 b2];rfl
  ·rw[show(((((Al (Nat.gcd z.natAbs (val l))).length:Nat):Int) != (1:Int))==false)=false by(rw[show((((Al (Nat.gcd z.natAbs (val l))).length:Nat):Int) != (1:Int))=true by rw[bne_iff_ne];omega];rfl),cf,a5,b5,Dk a1 a2,Dk b1 b2];rfl
def Tg{N:Nat}{x:RatD}{o:Bool}(D:x.ok)(k:fit (4*x.m+10) N):∃ d:RatD,d.can x.q/\∀ K:LA->O R,Qd N x.av o K=K d.av:=by
 have Y:=k.1
 rcases Gi (R:=R) (N:=N) (o:=o) D (k.le (by omega))with⟨n,d,n1,n2,G,d2,e,hK⟩|hK
 ·obtain⟨c,c1,C⟩:=Vq (R:=R) (N:=N) (s:=n) (b:=d) (by omega) G (by omega) (by omega)
  rw[e]at c1
  refine⟨c,c1,fun K=>?_⟩
  rw[CH];unfold KT
  rw[Mq,ct,Gk,hK,ct,C];rfl
 ·obtain⟨neg,s,l,o1,o2,p1,p2,I,p4,p5,L,T⟩:=Jk (R:=R) (N:=N) (o:=o) D (k.le (by omega))
  obtain⟨c,c1,C⟩:=Uz (R:=R) (N:=N) (neg:=neg) (s:=s) (l:=l) (n:=l.length) (o:=o1) (t:=false) (o':=o2) rfl p1 p2 I (k.le (by omega))
  rw[L]at c1
  refine⟨c,c1,fun K=>?_⟩
  rw[CH];unfold KT
  rw[Mq,ct,Gk,hK,cf,ct,T,C];rfl
def PU(x y:Rat):Int:=if x<y then -1 else if y<x then 1 else 0
def mz{d:Nat}(h:0<d):(0:Rat)<(d:Rat):=Adg.2 h
def nA{a c:Int}{b d:Nat}(k:0<b)(C:0<d):mkRat a b<mkRat c d↔a*d<c*b:=by
 rw[Ac6,Ac6,Rat.div_lt_iff (mz k)]
 have e:(c:Rat)/(d:Rat)*(b:Rat)=(c*b:Rat)/(d:Rat):=by rw[Aca,Aca,Ae4,Ae4,Rat.mul_comm (d:Rat)⁻¹]
 rw[e,Rat.lt_div_iff (mz C)]
 have e1:(a:Rat)*(d:Rat)=((a*d:Int):Rat):=by rw[Adf];rfl
 have D:(c:Rat)*(b:Rat)=((c*b:Int):Rat):=by rw[Adf];rfl
 rw[e1,D,Aby]
def nB{a c:Int}{b d:Nat}(k:0<b)(C:0<d):PU (mkRat a b) (mkRat c d)=MV (a*d) (c*b):=by
 unfold PU MV
 by_cases h:a*d<c*b
 ·rw[if_pos h,if_pos ((nA k C).2 h)]
 ·rw[if_neg h,if_neg (fun hh=>h ((nA k C).1 hh))]
  by_cases D:c*b<a*d
  ·rw[if_pos D,if_pos ((nA C k).2 D)]
  ·rw[if_neg D,if_neg (fun hh=>D ((nA C k).1 hh))]
def kA{N:Nat}{a b:Int}{K:Int->O R}:Kp N a b K=K (MV a b):=by
 rw[Pi];unfold No
 simp only[L6];unfold L5
 rw[show(a != a)=false by simp,show(b != b)=false by simp]
 dsimp only
 rw[cf,cf]
 unfold MV
 by_cases h:a<b
 ·rw[decide_eq_true h,ct,if_pos h]
 ·rw[decide_eq_false h,cf,if_neg h]
  by_cases k:b<a
  ·rw[decide_eq_true (show a>b from k),ct,if_pos k]
  ·rw[decide_eq_false (show ¬ a>b from k),cf,if_neg k]
def bE{N:Nat}{a b:Int}{K:Int->O R}:In N a b K=K (MV a b):=by
 rw[Mt];unfold Kz
 simp only[Pj];unfold Np
 rw[show(a != a)=false by simp,show(b != b)=false by simp]
 dsimp only
 rw[cf,cf]
 unfold MV
 by_cases h:a<b
 ·rw[decide_eq_true h,ct,if_pos h]
 ·rw[decide_eq_false h,cf,if_neg h]
  by_cases k:b<a
  ·rw[decide_eq_true (show a>b from k),ct,if_pos k]
  ·rw[decide_eq_false (show ¬ a>b from k),cf,if_neg k]
def rG{p q:Rat}(h:p.num.sign<q.num.sign):p<q:=by
 rw[Rat.lt_iff]
 have D:=p.den_pos;have hq:=q.den_pos
 rcases Ab2 p.num 0 with k|k|k
 ·rcases Int.lt_or_le q.num 0 with C|C
  ·rw[zn k,zn C]at h;omega
  ·have x1:p.num*q.den<0:=Int.mul_neg_of_neg_of_pos k (by omega)
   have x2:0<=q.num*p.den:=Int.mul_nonneg C (by omega)
   omega
 ·rw[k]at h ⊢
  have:0<q.num:=by simpa using h
  have x2:0<q.num*p.den:=Int.mul_pos this (by omega)
  rw[Int.zero_mul];exact x2
 ·rw[Aat k]at h
  have:=Int.sign_trichotomy q.num
  omega
def Zd{a b:Int}(C:-2147483648<a/\a<2147483648)(D:-2147483648<b/\b<2147483648):-4611686018427387904<a*b/\a*b<4611686018427387904:=by
 have k:a.natAbs*b.natAbs<=2147483647*2147483647:=Aa4 (by omega) (by omega)
 rw[<-Abl]at k
 omega
def GY{N:Nat}{x y:RatD}{o o':Bool}{K:Int->O R}(L:x.ok)(I:y.ok)(k:fit (4*(x.m+y.m)+10) N):I5 N x.av o y.av o' K=K (PU x.q y.q):=by
 have h1:=k.1
 rw[CL];unfold T9
 rw[Mq,ct,Gk,Gh L (k.le (by omega)),Mq,ct,Gk,Gh I (k.le (by omega))]
 by_cases hs:x.q.num.sign=y.q.num.sign
 ·rw[show(x.q.num.sign != y.q.num.sign)=false by simp[hs],cf,ct]
  have gen:Ki N K o x.av o' y.av=K (PU x.q y.q):=by
   obtain⟨n1,s1,l1,a1,b1,p1,p2,p3,p4,p5,p6,p7⟩:=Jk (R:=R) (N:=N) (o:=o) L (k.le (by omega))
   obtain⟨n2,s2,l2,a2,b2,Y,q2,q3,q4,q5,q6,q7⟩:=Jk (R:=R) (N:=N) (o:=o') I (k.le (by omega))
   obtain⟨S1,t1,t2,t3⟩:=W8 (R:=R) (N:=N) (n1:=n1) (n2:=false) (s1:=s1) (s2:=.of l2 false b2) (o1:=a1) (o2:=(b2||false)) p1 q2 (k.le (show s1.l.length+l2.length<=_ by omega))
   obtain⟨S2,u1,u2,u3⟩:=W8 (R:=R) (N:=N) (n1:=n2) (n2:=false) (s1:=s2) (s2:=.of l1 false b1) (o1:=a2) (o2:=(b1||false)) Y p2 (k.le (show s2.l.length+l1.length<=_ by omega))
   have v1:Ar false (.of l2 false b2)=(val l2:Int):=rfl
   have v2:Ar false (.of l1 false b1)=(val l1:Int):=rfl
   rw[v1]at t2 t3;rw[v2]at u2 u3
   have l1':(Al (Ar n1 s1*(val l2:Int)).natAbs).length<=x.m+max y.m 1:=Aal (Iy (by
    rw[Abl,B6,zm,Aab]
    exact Aac (zV (Be p1) (zh (by omega) p4)) (zV (Be q2) (zh (by omega) q5)))) (zE _)
   have l2':(Al (Ar n2 s2*(val l1:Int)).natAbs).length<=y.m+max x.m 1:=Aal (Iy (by
    rw[Abl,B6,zm,Aab]
    exact Aac (zV (Be Y) (zh (by omega) q4)) (zV (Be p2) (zh (by omega) p5)))) (zE _)
   unfold Ki
   rw[Mq,ct,Gk,p7,GX,ct,Mq,ct,Gk,q7,GX,ct,JB,ct,bA,ol,t3,JB,ct,bA,ol,u3,Dk t1 t2,Dk u1 u2,ol,ol,bC (s1:=.of (Al (Ar n1 s1*(val l2:Int)).natAbs) false true) (s2:=.of (Al (Ar n2 s2*(val l1:Int)).natAbs) false true) (Ac _) (Ac _) (k.le (show(Al (Ar n1 s1*(val l2:Int)).natAbs).length+(Al (Ar n2 s2*(val l1:Int)).natAbs).length<=_ by omega)),Mm,Mm,<-p6,<-q6,nB (by omega) (by omega)]
  rcases Gi (R:=R) (N:=N) (o:=o) L (k.le (by omega))with⟨n,d,n1,n2,d1,d2,e,hK⟩|hK
  ·rcases Gi (R:=R) (N:=N) (o:=o') I (k.le (by omega))with⟨n',d',C,D,G,T,e',hK'⟩|hK'
   ·have b1:=Zd (a:=n) (b:=(d':Int)) ⟨n1,n2⟩ (by omega)
    have b2:=Zd (a:=n') (b:=(d:Int)) ⟨C,D⟩ (by omega)
    rw[hK,ct,hK',show((true:Bool)==true)=true by rfl,ct,jT,ct,bE,i64 (by omega),i64 (by omega),<-e,<-e',nB d1 G]
   ·rw[hK,ct,hK',show((true:Bool)==true)=true by rfl,ct,jT,cf,gen]
  ·rcases Gi (R:=R) (N:=N) (o:=o') I (k.le (by omega))with⟨n',d',C,D,G,T,e',hK'⟩|hK'
   ·rw[hK,ct,hK',show((false:Bool)==true)=false by rfl,cf,gen]
   ·rw[hK,ct,hK',show((false:Bool)==true)=false by rfl,cf,gen]
 ·rw[show(x.q.num.sign != y.q.num.sign)=true by simp[hs],ct,kA]
  congr 1
  unfold MV PU
  by_cases h:x.q.num.sign<y.q.num.sign
  ·rw[if_pos h,if_pos (rG h)]
  ·have h2:y.q.num.sign<x.q.num.sign:=by omega
   have:=rG h2
   rw[if_neg h,if_pos h2,if_neg (fun hh=>absurd (Rat.le_of_lt this) (Rat.not_le.2 hh)),if_pos this]
def kB{q:Rat}(h:q.num.sign=0):q=0:=Adh.1 (Adu.1 h)
def Ot{a b:Int}{k l:Nat}(C:a.natAbs<4294967296 ^ k)(D:b.natAbs<4294967296 ^ l):(a*b).natAbs<4294967296 ^ (k+l):=by rw[Abl,Aab];exact Aac C D
def ZA{a b:Int}{k:Nat}(C:a.natAbs<4294967296 ^ k)(D:b.natAbs<4294967296 ^ k):(a+b).natAbs<4294967296 ^ (k+1):=by rw[zR];omega
def G2{k l:Nat}(h:k<=l):4294967296 ^ k<=4294967296 ^ l:=zh (by omega) h
def rH{v k:Nat}(h:(Al v).length<=k):v<4294967296 ^ k:=by
 have:=Be (Ac v);rw[Af]at this
 exact zV this (G2 h)
def kC(p r:Int)(d:Nat)(k:d≠0):mkRat (p+r) d=mkRat p d+mkRat r d:=by
 rw[Adk _ _ k k,<-Int.add_mul]
 exact(Rat.mkRat_mul_right k).symm
def s7{N:Nat}{x y:RatD}{o o':Bool}(hx:x.ok)(hy:y.ok)(C:fit (8*(x.m+y.m)+40) N):∃ d:RatD,d.can (x.q+y.q)/\∀ K:LA->O R,Wi N K o x.av o' y.av=K d.av:=by
 obtain⟨n1,s1,l1,a1,b1,p1,p2,G,p4,p5,T,Y⟩:=Jk (R:=R) (N:=N) (o:=o) hx (C.le (by omega))
 obtain⟨n2,s2,l2,a2,b2,I,D,q3,q4,q5,q6,q7⟩:=Jk (R:=R) (N:=N) (o:=o') hy (C.le (by omega))
 have zl1:(Ar n1 s1).natAbs<4294967296 ^ x.m:=by rw[B6];exact zV (Be p1) (G2 p4)
 have zl2:(Ar n2 s2).natAbs<4294967296 ^ y.m:=by rw[B6];exact zV (Be I) (G2 q4)
 have dl1:((val l1:Nat):Int).natAbs<4294967296 ^ (x.m+1):=by rw[zm];exact zV (Be p2) (G2 (by omega))
 have vQ:((val l2:Nat):Int).natAbs<4294967296 ^ (y.m+1):=by rw[zm];exact zV (Be D) (G2 (by omega))
 by_cases he:val l1=val l2
 ·obtain⟨S,t1,t2,t3⟩:=dL (R:=R) (N:=N) (n1:=n1) (n2:=n2) (s1:=s1) (s2:=s2) (o1:=a1) (o2:=a2) p1 I (C.le (by omega))
  have lz:(Al (Ar n1 s1+Ar n2 s2).natAbs).length<=x.m+y.m+1:=Iy (ZA (k:=x.m+y.m) (zV zl1 (G2 (by omega))) (zV zl2 (G2 (by omega))))
  obtain⟨c,c1,L⟩:=Uz (R:=R) (N:=N) (neg:=decide (Ar n1 s1+Ar n2 s2<0)) (s:=.of (Al (Ar n1 s1+Ar n2 s2).natAbs) false true) (l:=l1) (n:=l1.length) (o:=true) (t:=false) (o':=b1) rfl (Ac _) p2 G (C.le (show 2*((Al (Ar n1 s1+Ar n2 s2).natAbs).length+l1.length)+8<=_ by omega))
  rw[Mm,kC _ _ _ G,T]at c1
  rw[show mkRat (Ar n2 s2) (val l1)=y.q by rw[he,q6]]at c1
  refine⟨c,c1,fun K=>?_⟩
  unfold Wi
  rw[Mq,ct,Gk,Y,GX,ct,Mq,ct,Gk,q7,GX,ct,Lf rfl rfl p2 D (C.le (by omega)),he,Rf,show((0:Int)==0)=true by rfl,ct,JB,ct,JB,ct,bA,bA,t3,Dk t1 t2,ol,L];rfl
 ·obtain⟨S1,t1,t2,t3⟩:=W8 (R:=R) (N:=N) (n1:=n1) (n2:=false) (s1:=s1) (s2:=.of l2 false b2) (o1:=a1) (o2:=(b2||false)) p1 D (C.le (show s1.l.length+l2.length<=_ by omega))
  obtain⟨S2,u1,u2,u3⟩:=W8 (R:=R) (N:=N) (n1:=n2) (n2:=false) (s1:=s2) (s2:=.of l1 false b1) (o1:=a2) (o2:=(b1||false)) I p2 (C.le (show s2.l.length+l1.length<=_ by omega))
  rw[show Ar false (.of l2 false b2)=(val l2:Int) by rfl]at t2 t3
  rw[show Ar false (.of l1 false b1)=(val l1:Int) by rfl]at u2 u3
  have z1:=Ot zl1 vQ
  have z2:=Ot zl2 dl1
  have L1:=Iy z1
  have L2:=Iy z2
  obtain⟨S3,w1,w2,w3⟩:=dL (R:=R) (N:=N) (n1:=decide (Ar n1 s1*(val l2:Int)<0)) (n2:=decide (Ar n2 s2*(val l1:Int)<0)) (s1:=.of (Al (Ar n1 s1*(val l2:Int)).natAbs) false true) (s2:=.of (Al (Ar n2 s2*(val l1:Int)).natAbs) false true) (o1:=true) (o2:=true) (Ac _) (Ac _) (C.le (show(Al (Ar n1 s1*(val l2:Int)).natAbs).length+(Al (Ar n2 s2*(val l1:Int)).natAbs).length+1<=_ by omega))
  rw[Mm,Mm]at w2 w3
  obtain⟨S4,v1,v2,v3⟩:=DC (R:=R) (N:=N) (a:=l1) (b:=l2) (t:=false) (o:=b1) (t':=false) (o':=b2) rfl rfl p2 D (C.le (by omega))
  have z3:=ZA (k:=x.m+y.m+1) (zV z1 (G2 (by omega))) (zV z2 (G2 (by omega)))
  have L3:=Iy z3
  have z4:val l1*val l2<4294967296 ^ (x.m+1+(y.m+1)):=by
   have:=Ot dl1 vQ;rw[Abl,zm,zm]at this;exact this
  have L4:=Iy z4
  obtain⟨c,c1,L⟩:=Uz (R:=R) (N:=N) (neg:=decide (Ar n1 s1*(val l2:Int)+Ar n2 s2*(val l1:Int)<0)) (s:=.of (Al (Ar n1 s1*(val l2:Int)+Ar n2 s2*(val l1:Int)).natAbs) false true) (l:=Al (val l1*val l2)) (n:=(Al (val l1*val l2)).length) (o:=true) (t:=false) (o':=true) rfl (Ac _) (Ac _) (by rw[Af];exact Ade G q3) (C.le (show 2*((Al (Ar n1 s1*(val l2:Int)+Ar n2 s2*(val l1:Int)).natAbs).length+(Al (val l1*val l2)).length)+8<=_ by omega))
  rw[Mm,Af,<-Adk _ _ G q3,T,q6]at c1
  refine⟨c,c1,fun K=>?_⟩
  unfold Wi
  have hc:(Fq (val l1) (val l2)==0)=false:=by
   rw[beq_eq_false_iff_ne];unfold Fq;split
   ·omega
   ·rw[if_pos (by omega)];omega
  rw[Mq,ct,Gk,Y,GX,ct,Mq,ct,Gk,q7,GX,ct,Lf rfl rfl p2 D (C.le (by omega)),hc,cf,JB,ct,bA,ol,t3,JB,ct,bA,ol,u3,Dk t1 t2,Dk u1 u2,ol,ol,w3,v3,Dk w1 w2,Dk v1 v2,ol,L];rfl
def dN{N:Nat}{x y:RatD}{o o':Bool}(G:x.ok)(I:y.ok)(k:fit (8*(x.m+y.m)+40) N):∃ d:RatD,d.can (x.q+y.q)/\∀ K:LA->O R,L0 N x.av o y.av o' K=K d.av:=by
 have h1:=k.1
 by_cases hz:x.q.num.sign=0
 ·obtain⟨c,c1,C⟩:=Tg (R:=R) (N:=N) (o:=o') I (k.le (by omega))
  refine⟨c,by rw[kB hz,Rat.zero_add];exact c1,fun K=>?_⟩
  rw[Ya];unfold EJ
  rw[Mq,ct,Gk,Gh G (k.le (by omega)),hz,show((0:Int)==0)=true by rfl,ct,Mq,ct,Gk,C];rfl
 ·have L:(x.q.num.sign==0)=false:=by rw[beq_eq_false_iff_ne];exact hz
  by_cases hw:y.q.num.sign=0
  ·obtain⟨c,c1,C⟩:=Tg (R:=R) (N:=N) (o:=o) G (k.le (by omega))
   refine⟨c,by rw[kB hw,Rat.add_zero];exact c1,fun K=>?_⟩
   rw[Ya];unfold EJ
   rw[Mq,ct,Gk,Gh G (k.le (by omega)),L,cf,Mq,ct,Gk,Gh I (k.le (by omega)),hw,show((0:Int)==0)=true by rfl,ct,ct,C];rfl
  ·have hwb:(y.q.num.sign==0)=false:=by rw[beq_eq_false_iff_ne];exact hw
   have start:∀ K:LA->O R,L0 N x.av o y.av o' K=Fj N x.av o (fun g e aw=>Fj N y.av o' fun i f ax=>cond (aw==true) (K9 N K g e i f o x.av o' y.av (cond true ax false)) (K9 N K g e i f o x.av o' y.av false)):=by
    intro K
    rw[Ya];unfold EJ
    rw[Mq,ct,Gk,Gh G (k.le (by omega)),L,cf,Mq,ct,Gk,Gh I (k.le (by omega)),hwb,cf,ct];rfl
   have gen:∃ d:RatD,d.can (x.q+y.q)/\∀(K:LA->O R)(g e i f:Int),K9 N K g e i f o x.av o' y.av false=K d.av:=by
    obtain⟨c,c1,C⟩:=s7 (R:=R) (N:=N) (o:=o) (o':=o') G I k
    exact⟨c,c1,fun K g e i f=>by unfold K9 X9;rw[cf,C]⟩
   rcases Gi (R:=R) (N:=N) (o:=o) G (k.le (by omega))with⟨n,d,n1,n2,d1,d2,e,hK⟩|hK
   ·rcases Gi (R:=R) (N:=N) (o:=o') I (k.le (by omega))with⟨n',D,T,Y,d1',d2',e',hK'⟩|hK'
    ·have b1:=Zd (a:=n) (b:=(D:Int)) ⟨n1,n2⟩ (by omega)
     have b2:=Zd (a:=n') (b:=(d:Int)) ⟨T,Y⟩ (by omega)
     have b3:=Zd (a:=(d:Int)) (b:=(D:Int)) (by omega) (by omega)
     have b4:((d*D:Nat):Int)=(d:Int)*(D:Int):=by simp
     obtain⟨c,c1,C⟩:=Vq (R:=R) (N:=N) (s:=n*D+n'*d) (b:=d*D) (by omega) (Ad1 d1 d1') (by omega) (by omega)
     rw[<-Adk _ _ (by omega) (by omega),e,e']at c1
     refine⟨c,c1,fun K=>?_⟩
     rw[start,hK,hK',show((true:Bool)==true)=true by rfl,ct,jT]
     unfold K9 X9
     rw[ct,i64 (a:=n*(D:Int)) (by omega),i64 (a:=n'*(d:Int)) (by omega),i64 (by omega),i64 (by omega),<-b4,C];rfl
    ·obtain⟨c,c1,C⟩:=gen
     refine⟨c,c1,fun K=>?_⟩
     rw[start,hK,hK',show((true:Bool)==true)=true by rfl,ct,jT,C]
   ·obtain⟨c,c1,C⟩:=gen
    refine⟨c,c1,fun K=>?_⟩
    rw[start,hK]
    rcases Gi (R:=R) (N:=N) (o:=o') I (k.le (by omega))with⟨n',D,T,Y,d1',d2',e',hK'⟩|hK'
    ·rw[hK',show((false:Bool)==true)=false by rfl,cf,C]
    ·rw[hK',show((false:Bool)==true)=false by rfl,cf,C]
def rI(n:Bool)(s:LS):Ar (!n) s=-Ar n s:=by unfold Ar;cases n<;>simp
def dO{N:Nat}{x y:RatD}{o o':Bool}(k:x.ok)(C:y.ok)(D:fit (8*(x.m+y.m)+40) N):∃ d:RatD,d.can (x.q - y.q)/\∀ K:LA->O R,Sf N x.av o y.av o' K=K d.av:=by
 obtain⟨c,c1,G⟩:=dN (R:=R) (N:=N) (x:=⟨x.neg,.of x.ns.l false o,.of x.ds.l false o⟩) (y:=⟨!y.neg,.of y.ns.l false o',.of y.ds.l false o'⟩) (o:=(o||(o||false))) (o':=(o'||(o'||false))) k C D
 have e1:RatD.q ⟨x.neg,.of x.ns.l false o,.of x.ds.l false o⟩=x.q:=rfl
 have I:RatD.q ⟨!y.neg,.of y.ns.l false o',.of y.ds.l false o'⟩=-y.q:=by
  show mkRat (Ar (!y.neg) (.of y.ns.l false o')) (val y.ds.l)=_
  rw[rI,<-Rat.neg_mkRat];rfl
 rw[e1,I,<-Acp]at c1
 refine⟨c,c1,fun K=>?_⟩
 rw[WY];unfold gD
 rw[uX,oh,Y_,vr,ct,uX,oh,Y_,vr,ct]
 exact(G _).trans rfl
def s9{N:Nat}{x y:RatD}{o o':Bool}(G:x.ok)(I:y.ok)(k:fit (8*(x.m+y.m)+40) N):∃ d:RatD,d.can (x.q*y.q)/\∀ K:LA->O R,Wf N K o x.av o' y.av=K d.av:=by
 obtain⟨n1,s1,l1,a1,b1,p1,p2,L,T,p5,Y,p7⟩:=Jk (R:=R) (N:=N) (o:=o) G (k.le (by omega))
 obtain⟨n2,s2,l2,a2,b2,C,D,q3,q4,q5,q6,q7⟩:=Jk (R:=R) (N:=N) (o:=o') I (k.le (by omega))
 have zl1:(Ar n1 s1).natAbs<4294967296 ^ x.m:=by rw[B6];exact zV (Be p1) (G2 T)
 have zl2:(Ar n2 s2).natAbs<4294967296 ^ y.m:=by rw[B6];exact zV (Be C) (G2 q4)
 have dl1:((val l1:Nat):Int).natAbs<4294967296 ^ (x.m+1):=by rw[zm];exact zV (Be p2) (G2 (by omega))
 have vQ:((val l2:Nat):Int).natAbs<4294967296 ^ (y.m+1):=by rw[zm];exact zV (Be D) (G2 (by omega))
 obtain⟨S1,t1,t2,t3⟩:=W8 (R:=R) (N:=N) (n1:=n1) (n2:=n2) (s1:=s1) (s2:=s2) (o1:=a1) (o2:=a2) p1 C (k.le (by omega))
 have L1:=Iy (Ot zl1 zl2)
 obtain⟨S4,v1,v2,v3⟩:=DC (R:=R) (N:=N) (a:=l1) (b:=l2) (t:=false) (o:=b1) (t':=false) (o':=b2) rfl rfl p2 D (k.le (by omega))
 have z4:val l1*val l2<4294967296 ^ (x.m+1+(y.m+1)):=by
  have:=Ot dl1 vQ;rw[Abl,zm,zm]at this;exact this
 have L4:=Iy z4
 obtain⟨c,c1,c2⟩:=Uz (R:=R) (N:=N) (neg:=decide (Ar n1 s1*Ar n2 s2<0)) (s:=.of (Al (Ar n1 s1*Ar n2 s2).natAbs) false true) (l:=Al (val l1*val l2)) (n:=(Al (val l1*val l2)).length) (o:=true) (t:=false) (o':=true) rfl (Ac _) (Ac _) (by rw[Af];exact Ade L q3) (k.le (show 2*((Al (Ar n1 s1*Ar n2 s2).natAbs).length+(Al (val l1*val l2)).length)+8<=_ by omega))
 rw[Mm,Af,<-Ae0,Y,q6]at c1
 refine⟨c,c1,fun K=>?_⟩
 unfold Wf
 rw[Mq,ct,Gk,p7,GX,ct,Mq,ct,Gk,q7,GX,ct,JB,ct,JB,ct,bA,bA,t3,v3,Dk t1 t2,Dk v1 v2,ol,c2];rfl
def PV{N:Nat}{x y:RatD}{o o':Bool}(hx:x.ok)(L:y.ok)(k:fit (8*(x.m+y.m)+40) N):∃ d:RatD,d.can (x.q*y.q)/\∀ K:LA->O R,Kc N x.av o y.av o' K=K d.av:=by
 have h1:=k.1
 obtain⟨g,g1,T⟩:=s9 (R:=R) (N:=N) (o:=o) (o':=o') hx L k
 rcases Gi (R:=R) (N:=N) (o:=o) hx (k.le (by omega))with⟨n,d,n1,n2,d1,d2,e,hK⟩|hK
 ·rcases Gi (R:=R) (N:=N) (o:=o') L (k.le (by omega))with⟨n',C,D,G,I,Y,e',hK'⟩|hK'
  ·have b1:=Zd (a:=n) (b:=n') ⟨n1,n2⟩ ⟨D,G⟩
   have b3:=Zd (a:=(d:Int)) (b:=(C:Int)) (by omega) (by omega)
   have b4:((d*C:Nat):Int)=(d:Int)*(C:Int):=by simp
   obtain⟨c,c1,c2⟩:=Vq (R:=R) (N:=N) (s:=n*n') (b:=d*C) (by omega) (Ad1 d1 I) (by omega) (by omega)
   rw[<-Ae0,e,e']at c1
   refine⟨c,c1,fun K=>?_⟩
   rw[X7];unfold EH
   rw[Mq,ct,Gk,hK,Mq,ct,Gk,hK',show((true:Bool)==true)=true by rfl,ct,jT,ct,i64 (by omega),i64 (by omega),<-b4,c2];rfl
  ·refine⟨g,g1,fun K=>?_⟩
   rw[X7];unfold EH
   rw[Mq,ct,Gk,hK,Mq,ct,Gk,hK',show((true:Bool)==true)=true by rfl,ct,jT,cf,T]
 ·refine⟨g,g1,fun K=>?_⟩
  rw[X7];unfold EH
  rcases Gi (R:=R) (N:=N) (o:=o') L (k.le (by omega))with⟨n',C,D,G,I,Y,e',hK'⟩|hK'
  ·rw[Mq,ct,Gk,hK,Mq,ct,Gk,hK',show((false:Bool)==true)=false by rfl,cf,T]
  ·rw[Mq,ct,Gk,hK,Mq,ct,Gk,hK',show((false:Bool)==true)=false by rfl,cf,T]
def It(z:Int):LA:=Ji (decide (z<0)) (.of (Al z.natAbs) false false)
def nC(z:Int)(K:LA->O R):(cond ((beq 0 0)&&((beq (List.length (It z)) 2)&&(beq 2 2))) (cond (ble 2 (List.length (It z))) (K (take 2 (It z))) none) none)=K (It z):=rfl
def yn(z:Int):take 2 (It z)=It z:=rfl
def xo(z:Int):beq (List.length (It z)) 2=true:=rfl
def vR(v:Nat):take ((Al v).length*1) (Ad (Al v))=Ad (Al v):=Dk (Ac _) (Af v)
def Nw{N:Nat}{neg:Bool}{l:List Nat}{n:Nat}{t o:Bool}{K:LA->O R}(k:n=l.length)(C:Ag l)(D:fit l.length N):Fy N neg (Ad l) n t o K=K (It (if neg then -(val l:Int)else(val l:Int))):=by
 obtain⟨c1,G⟩:=Rh (z:=if neg then -(val l:Int)else(val l:Int)) (c:=neg) (m:=val l) rfl
 rw[KZ];unfold OX
 rw[C4 k C D,vR]
 unfold It
 rw[<-c1,G]
 cases neg
 ·rfl
 ·rw[show((true:Bool)==true)=true by rfl,ct,jT];simp[Ji,LS.av]
def GZ{N:Nat}{v:Int}{K:LA->O R}(C:-9223372036854775808<=v/\v<=9223372036854775807)(hN:2000<=N):I8 N v K=K (It v):=by
 have k:v.natAbs<18446744073709551616:=by omega
 have D:=Y8 k
 rw[Z3];unfold Yn
 by_cases h:v<0
 ·have e:wrap .u64 (wrap .u64 (wrap .i64 ((0:Int) - wrap .i64 (v+1)))+1)=(v.natAbs:Int):=by
   rw[i64 (a:=v+1) (by omega),i64 (by omega),HP,HP];omega
  rw[decide_eq_true h,ct,e,Uy k (by omega),vR,Nw rfl (Ac _) ⟨by omega,by omega⟩,Af]
  have:(if true=true then -(v.natAbs:Int)else(v.natAbs:Int))=v:=by rw[if_pos rfl];omega
  rw[this];exact nC _ _
 ·have e:wrap .u64 v=(v.natAbs:Int):=by rw[HP];omega
  rw[decide_eq_false h,cf,e,Uy k (by omega),vR,Nw rfl (Ac _) ⟨by omega,by omega⟩,Af]
  have:(if false=true then -(v.natAbs:Int)else(v.natAbs:Int))=v:=by rw[if_neg (by decide)];omega
  rw[this];exact nC _ _
def JC{N:Nat}{n:Bool}{s:LS}{o:Bool}{K:LA->O R}(hs:Ag s.l)(k:fit s.l.length N):Wm N (Ji n s) o K=K (It (Ar n s)):=by
 rw[K_];unfold OY
 rw[Vp,Qv,Nw rfl hs k];exact nC _ _
def ZB{N:Nat}{n:Bool}{s:LS}{o:Bool}{K:Int->O R}(hs:Ag s.l)(k:fit s.l.length N):Wn N (Ji n s) o K=K (Ar n s).sign:=by
 rw[LB];unfold OZ
 rw[JB,ct,bA,JC hs k,xo,show(true&&(true&&(!false)))=true by rfl,ct]
 have e:setCells (Ji n s) 0 (It (Ar n s))=It (Ar n s):=rfl
 rw[e]
 generalize Ar n s=z
 unfold It
 rw[Vp]
 rcases Ab2 z 0 with h|h|h
 ·rw[decide_eq_true h,ct,zn h]
 ·subst h;rfl
 ·rw[decide_eq_false (by omega),cf,Qv]
  have:(Al z.natAbs).length≠0:=fun hh=>by have:=Bb.1 hh;omega
  simp only[LS.l]
  rw[a_ this,cf,Aat h]
def om{N:Nat}{n1 n2:Bool}{s1 s2:LS}{o1 o2:Bool}{K:LA->O R}(k:Ag s1.l)(C:Ag s2.l)(D:fit (3*(s1.l.length+s2.l.length)+4) N):UG N (Ji n1 s1) o1 (Ji n2 s2) o2 K=K (It ((Nat.gcd (Ar n1 s1).natAbs (Ar n2 s2).natAbs:Nat):Int)):=by
 have G:(Al (Nat.gcd (val s1.l) (val s2.l))).length<=s1.l.length+s2.l.length:=by
  rcases z6 (val s1.l)with h|h
  ·rw[h,Nat.gcd_zero_left];have:=(A7 C).2;omega
  ·have:=Bf (Nat.gcd_le_left (val s2.l) h);have:=(A7 k).2;omega
 rw[RY];unfold XW
 rw[Qv,Qv,og rfl rfl k C D,vR,Nw rfl (Ac _) (D.le (by omega)),Af,B6,B6];exact nC _ _
def DH{N:Nat}{n1:Bool}{s1:LS}{g:Nat}{o1 o2:Bool}{K:LA->LA->Bool->O R}(C:Ag s1.l)(G:0<g)(D:g∣val s1.l)(k:fit (s1.l.length+2*(Al g).length+4) N):Sp N (Ji n1 s1) o1 (It (g:Int)) o2 K=K (It (Ar n1 s1/(g:Int))) (It 0) true:=by
 have hc:It (g:Int)=Ji false (.of (Al g) false false):=by
  unfold It;rw[decide_eq_false (by omega),zm]
 have hq:(Al (val s1.l/g)).length<=s1.l.length:=Aal (Bf (Aaw _ _)) (A7 C).2
 rw[hc,CV];unfold CU
 rw[Qv,Qv,show(LS.of (Al g) false false).l=Al g by rfl]
 rw[Zc rfl rfl C (Ac _) (by rw[Af];omega) k,Af,Nat.mod_eq_zero_of_dvd D,show(!true)=false by rfl,cf,Vp,Vp,vR,Nw rfl (Ac _) (k.le (by omega)),Vp,vR,Nw rfl (Ac _) (k.le (by simp[C6])),Af,Af]
 have I:(if n1=true then -((0:Nat):Int)else((0:Nat):Int))=0:=by cases n1<;>rfl
 have e1:(if (!(n1==false))=true then -((val s1.l/g:Nat):Int)else((val s1.l/g:Nat):Int))=Ar n1 s1/(g:Int):=by
  obtain⟨c,hc⟩:=D
  have L:val s1.l/g=c:=by rw[hc,Aec _ G]
  rw[L];unfold Ar;rw[hc]
  cases n1
  ·simp;rw[Abr _ (by omega)]
  ·simp only[Bool.true_beq,Acs,if_true]
   rw[show -((g*c:Nat):Int)=(g:Int)*(-(c:Int)) by rw[Int.mul_neg];simp,Abr _ (by omega)]
 rw[I,e1]
 generalize Ar n1 s1/(g:Int)=q
 have r0:∀(f:Bool->O R),Zu (It 0) f=f false:=fun f=>Vp
 rw[show((beq 0 0)&&((beq (List.length (It q)) 2)&&(beq 2 2)))=true by rfl,ct,show((beq 0 0)&&((beq (List.length (It 0)) 2)&&(beq 2 2)))=true by rfl,ct,r0,cf]
 rfl
def tR(q:Rat):RatD:=⟨decide (q.num<0),.of (Al q.num.natAbs) false false,.of (Al q.den) false false⟩
def cq(q:Rat):LA:=(tR q).av
def s_(q:Rat):(tR q).can q:=⟨rfl,rfl,rfl⟩
def rJ(q:Rat)(K:LA->O R):(cond ((beq 0 0)&&((beq (List.length (cq q)) 3)&&(beq 3 3))) (cond (ble 3 (List.length (cq q))) (K (take 3 (cq q))) none) none)=K (cq q):=rfl
def vw(q:Rat):ble 2 (List.length (cq q))=true:=rfl
def uY(q:Rat):take 2 (cq q)=It q.num:=rfl
def sa:cq 0=[.bool false,.imm [] 0 1 false false,.imm [.int .u32 1] 1 1 false false]:=by
 have e:cq 0=[.bool false,.imm (Ad (Al 0)) (Al 0).length 1 false false,.imm (Ad (Al 1)) (Al 1).length 1 false false]:=rfl
 rw[e,Qw];rfl
def lw{N:Nat}{K:LA->O R}:LC N K=K (cq 0):=by
 rw[LD];unfold O_
 rw[sa]
def vz{N:Nat}{z:Int}{o:Bool}{K:Int->O R}(k:fit (Al z.natAbs).length N):Wn N (It z) o K=K z.sign:=by
 have:=ZB (R:=R) (N:=N) (n:=decide (z<0)) (s:=.of (Al z.natAbs) false false) (o:=o) (K:=K) (Ac _) k
 rw[Mm]at this;exact this
def rK(z:Int):mkRat z 1=(z:Rat):=by
 apply Rat.ext
 ·rw[Ae5,if_neg (by decide),Nat.gcd_one_left];simp
 ·rw[Ae3,if_neg (by decide),Nat.gcd_one_left];simp
def sb(z:Int)(w:Nat)(k:w≠0):(mkRat z w).num=z/((Nat.gcd z.natAbs w:Nat):Int)/\(mkRat z w).den=w/Nat.gcd z.natAbs w:=by
 refine⟨?_,?_⟩
 ·rw[Ae5,if_neg k,Aak w]
 ·rw[Ae3,if_neg k,Aak w]
def SI{N:Nat}{n1 n2:Bool}{s1 s2:LS}{o1 o2:Bool}{K:LA->O R}(T:Ag s1.l)(G:Ag s2.l)(hpos:0<=Ar n2 s2)(C:fit (4*(s1.l.length+s2.l.length)+10) N):Ss N (Ji n1 s1) o1 (Ji n2 s2) o2 K=K (cq (mkRat (Ar n1 s1) (Ar n2 s2).natAbs)):=by
 have D:=B6 n2 s2
 have I:=B6 n1 s1
 rw[LV];unfold EM
 rw[JB,ct,bA,ZB G (C.le (by omega))]
 by_cases h0:Ar n2 s2=0
 ·rw[h0,show((0:Int).sign==0)=true by rfl,ct,lw]
  rw[show(0:Int).natAbs=0 by rfl,Rat.mkRat_zero];exact rJ _ _
 ·have hw:(Ar n2 s2).natAbs≠0:=by omega
  have Y:((Ar n2 s2).sign==0)=false:=by rw[Aat (by omega)];rfl
  rw[Y,cf,ct,JC G (C.le (by omega)),show((beq 0 0)&&((beq (List.length (It (Ar n2 s2))) 2)&&(beq 2 2)))=true by rfl,ct]
  have rb:∀(z:Int)(f:Bool->O R),Zu (It z) f=f (decide (z<0)):=fun z f=>Vp
  have rl:∀(z:Int)(f:LA->Nat->O R),D6 1 (drop 1 (It z)) f=f (Ad (Al z.natAbs)) (Al z.natAbs).length:=fun z f=>Qv
  have l2:=(A7 G).2
  have l1:=(A7 T).2
  rw[rb,decide_eq_false (by omega),show((!false)==true)=true by rfl,ct,rl,rF,rA (a:=Al (Ar n2 s2).natAbs) (b:=[1]) (m:=1) rfl rfl (C.le (by rw[D];omega)),jT]
  by_cases k:(Ar n2 s2).natAbs=1
  ·rw[k,Qw,show decide (([1]:List Nat)=[1])=true by decide,ct,JB,ct,bA,JC T (C.le (by omega)),rl,k,Qw]
   rw[rK]
   have e2:cq ((Ar n1 s1:Int):Rat)=[.bool (decide (Ar n1 s1<0)),.imm (Ad (Al (Ar n1 s1).natAbs)) (Al (Ar n1 s1).natAbs).length 1 false false,.imm (Ad [1]) 1 1 false false]:=by
    unfold cq tR RatD.av LS.av
    rw[Rat.num_intCast,Rat.den_intCast,Qw];rfl
   rw[e2];rfl
  ·have hne:decide (Al (Ar n2 s2).natAbs=[1])=false:=by
    rw[decide_eq_false_iff_not];intro hh
    have:=congrArg val hh
    rw[Af]at this;simp[val]at this;omega
   rw[hne,cf]
   unfold Uk
   have L:0<Nat.gcd (Ar n1 s1).natAbs (Ar n2 s2).natAbs:=Abs _ (by omega)
   have hgl:(Al (Nat.gcd (Ar n1 s1).natAbs (Ar n2 s2).natAbs)).length<=s2.l.length:=Aal (Bf (Nat.gcd_le_right _ (by omega))) (by rw[D];exact l2)
   have hd1:Nat.gcd (Ar n1 s1).natAbs (Ar n2 s2).natAbs∣val s1.l:=by rw[<-I];exact Abe _ _
   have hd2:Nat.gcd (Ar n1 s1).natAbs (Ar n2 s2).natAbs∣val s2.l:=by rw[<-D];exact Ab3 _ _
   obtain⟨q1,q2⟩:=sb (Ar n1 s1) (Ar n2 s2).natAbs hw
   rw[JB,ct,JB,ct,bA,bA,om T G (C.le (by omega))]
   generalize hgd:Nat.gcd (Ar n1 s1).natAbs (Ar n2 s2).natAbs=g at *
   rw[show((beq 0 0)&&((beq (List.length (It (g:Int))) 2)&&(beq 2 2)))=true by rfl,ct,ct,show ble 2 (List.length (It (g:Int)))=true by rfl,ct,yn,DH T L hd1 (C.le (by omega))]
   rw[show ∀ z:Int,((beq 0 0)&&((beq (List.length (It z)) 2)&&(beq 2 2)))=true from fun z=>rfl,ct,show((beq 0 0)&&((beq (List.length (It 0)) 2)&&(beq 2 2)))=true by rfl,ct,ct,DH G L hd2 (C.le (by omega))]
   have hwz:Ar n2 s2/(g:Int)=(((Ar n2 s2).natAbs/g:Nat):Int):=by
    rw[show Ar n2 s2=(((Ar n2 s2).natAbs:Nat):Int) by omega];rfl
   rw[show ∀ z:Int,((beq 0 0)&&((beq (List.length (It z)) 2)&&(beq 2 2)))=true from fun z=>rfl,ct,ct,rb,hwz,decide_eq_false (by omega),cf,show ∀ z:Int,ble 2 (List.length (It z))=true from fun z=>rfl,ct,rl,zm,<-q2]
   rw[<-q1];rfl
def wB{N:Nat}{z w:Int}{o o':Bool}{K:LA->O R}(k:0<=w)(C:fit (4*((Al z.natAbs).length+(Al w.natAbs).length)+10) N):Ss N (It z) o (It w) o' K=K (cq (mkRat z w.natAbs)):=by
 have:=SI (R:=R) (N:=N) (n1:=decide (z<0)) (s1:=.of (Al z.natAbs) false false) (n2:=decide (w<0)) (s2:=.of (Al w.natAbs) false false) (o1:=o) (o2:=o') (K:=K) (Ac _) (Ac _) (by rw[Mm];exact k) C
 rw[Mm,Mm]at this;exact this
def kD{N:Nat}{x:RatD}{o:Bool}{K:LA->O R}(k:x.ok)(C:fit (8*x.m+10) N):LW N x.av o K=K (cq x.q):=by
 have m1:x.ns.l.length<=x.m:=Ab0 _ _
 have m2:x.ds.l.length<=x.m:=Acd _ _
 rw[LX];unfold PE
 rw[show ble 2 (List.length x.av)=true by rfl,ct,Y_,tQ,ol,SI (s2:=.of x.ds.l false o) k.1 k.2 (by unfold Ar;simp) (C.le (show 4*(x.ns.l.length+x.ds.l.length)+10<=_ by omega))]
 have:mkRat (Ar x.neg x.ns) (Ar false (.of x.ds.l false o)).natAbs=x.q:=by rw[B6];rfl
 rw[this];exact rJ _ _
def tS(x:RatD)(k:x.ok):qm x.q<=x.m+1:=by
 have m1:x.ns.l.length<=x.m:=Ab0 _ _
 have m2:x.ds.l.length<=x.m:=Acd _ _
 unfold qm
 by_cases h:val x.ds.l=0
 ·have:x.q=0:=by unfold RatD.q;rw[h,Rat.mkRat_zero]
  rw[this,Rat.zero_num,Rat.zero_den,Qw];simp[C6]
 ·obtain⟨a1,_,a3⟩:=YZ (Ar x.neg x.ns) (val x.ds.l) h
  have b1:x.q.num.natAbs<=val x.ns.l:=by show(mkRat _ _).num.natAbs<=_;rw[a1,B6];exact Aaw _ _
  have b2:x.q.den<=val x.ds.l:=by show(mkRat _ _).den<=_;rw[a3];exact Aaw _ _
  have c1:=Aal (Bf b1) (A7 k.1).2
  have C:=Aal (Bf b2) (A7 k.2).2
  omega
def rL(z:Int)(d:Nat)(k:Nat)(C:z.natAbs<4294967296 ^ k)(D:d<4294967296 ^ k)(G:d≠0):qm (mkRat z d)<=k:=by
 obtain⟨a1,_,a3⟩:=YZ z d G
 unfold qm
 have b1:(mkRat z d).num.natAbs<=z.natAbs:=by rw[a1];exact Aaw _ _
 have b2:(mkRat z d).den<=d:=by rw[a3];exact Aaw _ _
 have c1:=Iy (zl b1 C)
 have I:=Iy (zl b2 D)
 omega
def gk(q:Rat):q.num.natAbs<4294967296 ^ qm q:=rH (Ab0 _ _)
def PW(q:Rat):q.den<4294967296 ^ qm q:=rH (Acd _ _)
def Vr(a b:Rat):qm (a+b)<=qm a+qm b+1:=by
 rw[Rat.add_def']
 have da:(a.den:Int).natAbs<4294967296 ^ qm a:=by rw[zm];exact PW a
 have db:(b.den:Int).natAbs<4294967296 ^ qm b:=by rw[zm];exact PW b
 refine rL _ _ _ ?_ ?_ (Ade a.den_nz b.den_nz)
 ·refine ZA (Ot (gk a) db) ?_
  have:=Ot (gk b) da
  rwa [Acc (qm b)]at this
 ·rw[zR,Aab]
  have:=Aac (PW a) (PW b)
  omega
def Mn(a b:Rat):qm (a*b)<=qm a+qm b:=by
 rw[Rat.mul_def']
 refine rL _ _ _ (Ot (gk a) (gk b)) ?_ (Ade a.den_nz b.den_nz)
 rw[Aab];exact Aac (PW a) (PW b)
def rM(a:Rat):qm (-a)=qm a:=by unfold qm;rw[Rat.neg_num,Rat.neg_den,Int.natAbs_neg]
def DI(a b:Rat):qm (a - b)<=qm a+qm b+1:=by rw[Acp,<-rM b];exact Vr _ _
def uZ{v:Int}(h:v.natAbs<18446744073709551616):qm (v:Rat)<=2:=by
 unfold qm;rw[Rat.num_intCast,Rat.den_intCast,Qw]
 have:=Y8 h
 simp;omega
def kE{N:Nat}{x:RatD}{o:Bool}{K:Int->O R}(k:x.ok)(C:fit (8*x.m+10) N):LY N x.av o K=K x.q.num.sign:=by
 have hq:=tS x k
 have D:(Al x.q.num.natAbs).length<=qm x.q:=Ab0 _ _
 rw[LZ];unfold PF
 rw[Mq,ct,Gk,kD k C,vw,ct,uY,vz (C.le (show(Al x.q.num.natAbs).length<=_ by omega))]
def ZC{N:Nat}{v:Int}{K:LA->O R}(k:-9223372036854775808<=v/\v<=9223372036854775807)(hN:4000<=N):G8 N v K=K (cq (v:Rat)):=by
 have C:=Y8 (show v.natAbs<18446744073709551616 by omega)
 rw[Z4];unfold Yo
 rw[GZ k (by omega),GZ (by omega) (by omega),wB (by omega) ⟨show 100*(4*((Al v.natAbs).length+(Al (1:Int).natAbs).length)+10)+1000<=N by(rw[show(1:Int).natAbs=1 by rfl,Qw];simp;omega),show 4*((Al v.natAbs).length+(Al (1:Int).natAbs).length)+10<=1000000000 by(rw[show(1:Int).natAbs=1 by rfl,Qw];simp;omega)⟩]
 have:mkRat v (1:Int).natAbs=(v:Rat):=rK v
 rw[this];exact rJ _ _
end
end Gx
namespace Gx
open Go Go.Proofs
section
variable{R:Type}
def G_(x:RatD):take 3 x.av=x.av:=rfl
def b3(x:RatD):ble 3 (List.length x.av)=true:=rfl
def c3(x:RatD):((beq 0 0)&&((beq (List.length x.av) 3)&&(beq 3 3)))=true:=rfl
def yQ(x:RatD):((beq (List.length x.av) 3)&&(true&&(!false)))=true:=rfl
def wC(x y:RatD):setCells x.av 0 y.av=y.av:=rfl
section
variable{N:Nat}{X:O R}{K:LA->O R}{x y:RatD}{o o':Bool}{p q:Rat}
def JD(k:x.can p)(C:y.can q)(G:fit (8*(qm p+qm q)+40) N)(h:∀ d:RatD,d.can (p+q)->K d.av=X):L0 N x.av o y.av o' K=X:=by
 obtain⟨d,D,e⟩:=dN (R:=R) (N:=N) (o:=o) (o':=o') k.ok C.ok (by rw[k.m,C.m];exact G)
 rw[e];exact h d (by rw[k.q,C.q]at D;exact D)
def ZD(k:x.can p)(C:y.can q)(G:fit (8*(qm p+qm q)+40) N)(h:∀ d:RatD,d.can (p - q)->K d.av=X):Sf N x.av o y.av o' K=X:=by
 obtain⟨d,D,e⟩:=dO (R:=R) (N:=N) (o:=o) (o':=o') k.ok C.ok (by rw[k.m,C.m];exact G)
 rw[e];exact h d (by rw[k.q,C.q]at D;exact D)
def DJ(k:x.can p)(C:y.can q)(G:fit (8*(qm p+qm q)+40) N)(h:∀ d:RatD,d.can (p*q)->K d.av=X):Kc N x.av o y.av o' K=X:=by
 obtain⟨d,D,e⟩:=PV (R:=R) (N:=N) (o:=o) (o':=o') k.ok C.ok (by rw[k.m,C.m];exact G)
 rw[e];exact h d (by rw[k.q,C.q]at D;exact D)
def Dl{v:Int}(k:-9223372036854775808<=v/\v<=9223372036854775807)(hN:4<=N)(h:∀ d:RatD,d.can (v:Rat)->K d.av=X):A4 N v K=X:=by
 obtain⟨d,C,e⟩:=bD (R:=R) (N:=N) k hN
 rw[e];exact h d C
end
def sd{q:Rat}:decide (q.num.sign<=0)=decide (q<=0):=by
 have e:q<=0↔q.num<=0:=by
  rw[Rat.le_iff_sub_nonneg,<-Rat.num_nonneg,Acp,Rat.zero_add,Rat.neg_num];omega
 rw[decide_eq_decide,e]
 rcases Ab2 q.num 0 with h|h|h
 ·rw[zn h];omega
 ·rw[h];simp
 ·rw[Aat h];omega
def qi{v:Int}(h:-9223372036854775808<=v/\v<=9223372036854775807):qm (v:Rat)<=2:=uZ (by omega)
def Er:Rat->List SegD->Rat
|_,[]=>0
|Gl,s::r=>if Gl<=0 then 0 else(s.price:Rat)*(if Gl<=(s.width:Rat)then Gl else(s.width:Rat))+Er (Gl - (if Gl<=(s.width:Rat)then Gl else(s.width:Rat))) r
def wD(l:List SegD):Prop:=∀ s∈l,-1048576<=s.width/\s.width<=1048576/\-1048576<=s.price/\s.price<=1048576
def RatD.is(x:RatD)(q:Rat)(m:Nat):Prop:=x.ok/\x.q=q/\x.m<=m
def RatD.can.is{x:RatD}{q:Rat}{m:Nat}(h:x.can q)(k:qm q<=m):x.is q m:=⟨h.ok,h.q,by rw[h.m];exact k⟩
def oq:RatD:=⟨false,.nil,.nil⟩
def UL{m:Nat}:oq.is 0 m:=by
 refine⟨⟨?_,?_⟩,?_,?_⟩
 ·intro x k;simp[oq,LS.l]at k
 ·intro x k;simp[oq,LS.l]at k
 ·simp[oq,RatD.q,LS.l,Ar,val]
 ·simp[oq,RatD.m,LS.l]
def RatD.is.qm{x:RatD}{q:Rat}{m:Nat}(h:x.is q m):qm q<=m+1:=by
 have:=tS x h.1
 rw[h.2.1]at this;have:=h.2.2;omega
section
variable{N:Nat}{X:O R}{K:LA->O R}{K':Int->O R}{x y:RatD}{o o':Bool}{p q:Rat}{m n:Nat}
def se(k:x.is p m)(C:y.is q n)(G:fit (8*(m+n)+40) N)(h:∀ d:RatD,d.can (p - q)->K d.av=X):Sf N x.av o y.av o' K=X:=by
 obtain⟨d,D,e⟩:=dO (R:=R) (N:=N) (o:=o) (o':=o') k.1 C.1 (G.le (by have:=k.2.2;have:=C.2.2;omega))
 rw[e];exact h d (by rw[k.2.1,C.2.1]at D;exact D)
def wE(k:x.is p m)(C:y.is q n)(D:fit (4*(m+n)+10) N):I5 N x.av o y.av o' K'=K' (PU p q):=by rw[GY k.1 C.1 (D.le (by have:=k.2.2;have:=C.2.2;omega)),k.2.1,C.2.1]
def tT{v:Int}(k:-9223372036854775808<=v/\v<=9223372036854775807)(hN:4000<=N):G8 N v K=K (tR (v:Rat)).av:=ZC k hN
end
def wF{q:Rat}{m:Nat}(h:qm q<=m):(tR q).is q m:=(s_ q).is h
def yR{v:Int}(h:-9223372036854775808<=v/\v<=9223372036854775807):(tR (v:Rat)).is v 2:=wF (qi h)
def u_{p q:Rat}:decide (PU p q>=0)=decide (q<=p):=by
 rw[decide_eq_decide];unfold PU
 by_cases h:p<q
 ·rw[if_pos h];simp[Rat.not_le.2 h]
 ·rw[if_neg h];have:=Rat.not_lt.1 h;simp only[this,iff_true];split<;>omega
end
end Gx
namespace Gx
open Go Go.Proofs
section
variable{R:Type}
def C9{u:UnitD}{h:Int}(k:Bc u h=true):(0<=u.min/\u.min<=1048576)/\(0<=u.max/\u.max<=1048576)/\u.min<=u.max:=by
 simp only[Bc,zJ,Gq,decide_eq_true_eq]at k
 exact⟨k.2.2.1,k.2.2.2.1,k.2.2.2.2.2.2.2.1⟩
def Jl{u:UnitD}{h:Int}(k:Bc u h=true):u.segs.l.length<=8/\F5 (-1048576) u.segs.l=true/\H2 u.segs.l=u.max - u.min:=by
 simp only[Bc,zJ]at k
 have:=k.2.2.2.2.2.2.2.2.2.2.2.2.2.2.2.1
 simpa[SC]using this
def gn:∀{l:List SegD}{p:Int},F5 p l=true->(∀ s∈l,1<=s.width/\s.width<=1048576/\-1048576<=s.price/\s.price<=1048576)
|[],_,_,_,hs=>by simp at hs
|a::r,p,h,s,hs=>by
  simp only[F5,zJ,Gq,decide_eq_true_eq]at h
  rcases zX.1 hs with rfl|hs
  ·omega
  ·exact gn h.2.2.2 s hs
def dP{u:UnitD}{h:Int}(k:Bc u h=true):wD u.segs.l:=fun s hs=>by have:=gn (Jl k).2.1 s hs;omega
def kF{A:Nat}:∀(l:List SegD)(p:Rat),wD l->2<=A->qm p<=A->qm (Er p l)<=2+l.length*(A+3*l.length+31)
|[],p,_,_,_=>by
  have:qm (0:Rat)<=2:=qi (v:=0) (by omega)
  rw[Er];simpa using this
| s::r,p,hs,hA,Y=>by
  have hr:=hs s (by simp)
  have I:=qi (v:=s.width) (by omega)
  have L:=qi (v:=s.price) (by omega)
  have h0:qm (0:Rat)<=2:=qi (v:=0) (by omega)
  rw[Er]
  split
  ·omega
  ·generalize k:(if p<=(s.width:Rat)then p else(s.width:Rat))=part
   have D:qm part<=A:=by rw[<-k];split<;>omega
   have C:qm (p - part)<=A+3:=by
    rw[<-k];split
    ·rw[Rat.sub_self];omega
    ·have:=DI p (s.width:Rat);omega
   have T:=kF (A:=A+3) r (p - part) (fun s G=>hs s (by simp[G])) (by omega) C
   have h2:=Mn (s.price:Rat) part
   have h3:=Vr ((s.price:Rat)*part) (Er (p - part) r)
   rw[z8]
   have:A+3+3*r.length+31=A+3*(r.length+1)+31:=by omega
   rw[this]at T
   rw[zS];omega
end
end Gx
namespace Gx
open Go Go.Proofs
def rN:Rat->List SegD->Bool×Rat
|_,[]=>(false,0)
|t,s::r=>cond (decide (0<=t)&&decide (t<(s.width:Rat))) (true,(s.price:Rat)) (rN (t - (s.width:Rat)) r)
def ot:Rat->List SegD->Bool×Rat
|_,[]=>(false,0)
|t,s::r=>cond (decide (0<t)&&decide (t<=(s.width:Rat))) (true,(s.price:Rat)) (ot (t - (s.width:Rat)) r)
def wG(l:List SegD):Prop:=∀ s∈l,(0:Rat)<(s.width:Rat)
def rO:∀{l:List SegD}{t:Rat},wG l->t<=0->(ot t l).1=false
|[],_,_,_=>rfl
|s::r,t,h,k=>by
  rw[ot,decide_eq_false (by grind),Adr,cond_false]
  exact rO (fun s hs=>h s (by simp[hs])) (by have:=h s (by simp);grind)
def ZE(a b:Int):((a+b:Int):Rat)=(a:Rat)+(b:Rat):=Aam a b
def nD{p:Int}{l:List SegD}(h:F5 p l=true):wG l:=fun s hs=>by
 have:=gn h s hs
 have k:(0:Int)<s.width:=by omega
 exact Rat.intCast_pos.2 k
def U0{p:Int}{s:SegD}{r:List SegD}(h:F5 p (s::r)=true):(p:Rat)<=(s.price:Rat)/\F5 s.price r=true/\(0:Rat)<(s.width:Rat):=by
 have k:=nD h s (by simp)
 simp only[F5,zJ,decide_eq_true_eq]at h
 exact⟨Aai.2 h.2.2.1,h.2.2.2,k⟩
def U4{w:Rat}{s:SegD}{r:List SegD}{t:Rat}(C:w=(s.width:Rat))(D:0<=t)(G:t<=w):Er t (s::r)=(s.price:Rat)*t:=by
 subst C
 rw[Er]
 by_cases k:t<=0
 ·have:t=0:=Aek k D
  subst this;simp
 ·rw[if_neg k,if_pos G,Rat.sub_self]
  have:Er 0 r=0:=by cases r with
   |nil=>rfl
   |cons a b=>rw[Er,if_pos Abj]
  rw[this,Rat.add_zero]
def Ze{s:SegD}{r:List SegD}{t:Rat}(D:(0:Rat)<(s.width:Rat))(C:(s.width:Rat)<=t):Er t (s::r)=(s.price:Rat)*(s.width:Rat)+Er (t - (s.width:Rat)) r:=by
 rw[Er,if_neg (by grind)]
 by_cases k:t<=(s.width:Rat)
 ·have:t=(s.width:Rat):=Aek k C
  rw[if_pos k,this]
 ·rw[if_neg k]
def dQ(l:List SegD):Er 0 l=0:=by cases l with
|nil=>rfl
|cons a b=>rw[Er,if_pos Abj]
def nF:∀{l:List SegD}{p:Int}{t:Rat},F5 p l=true->0<=t->t<=(H2 l:Rat)->(p:Rat)*t<=Er t l
|[],p,t,_,k,C=>by
  have:t=0:=Aek (by simpa[H2]using C) k
  subst this;simp[Er]
| s::r,p,t,h,k,C=>by
  obtain⟨D,G,I⟩:=U0 h
  by_cases L:t<=(s.width:Rat)
  ·rw[U4 rfl k L];exact Abw D k
  ·have T:(s.width:Rat)<=t:=by grind
   rw[Ze I T]
   rw[H2,ZE]at C
   have Y:=nF G (t:=t - (s.width:Rat)) (by grind) (by grind)
   have:=Abw D k
   grind
def tU:∀{l:List SegD}{p:Int}{t:Rat},F5 p l=true->(rN t l).1=true->(p:Rat)<=(rN t l).2
|[],_,_,_,h=>by cases h
| s::r,p,t,h,k=>by
  obtain⟨C,D,G⟩:=U0 h
  rw[rN]at k ⊢
  cases hc:(decide (0<=t)&&decide (t<(s.width:Rat)))with
  |true=>rw[hc]at k;simpa using C
  |false =>
   rw[hc]at k
   have:=tU D k
   simp only[cond_false]
   grind
def tV:∀{l:List SegD}{p:Int}{t:Rat},F5 p l=true->(ot t l).1=true->(p:Rat)<=(ot t l).2
|[],_,_,_,h=>by cases h
| s::r,p,t,h,k=>by
  obtain⟨C,D,G⟩:=U0 h
  rw[ot]at k ⊢
  cases hc:(decide (0<t)&&decide (t<=(s.width:Rat)))with
  |true=>rw[hc]at k;simpa using C
  |false =>
   rw[hc]at k
   have:=tV D k
   simp only[cond_false]
   grind
def kG:∀{l:List SegD}{p:Int}{t s:Rat},F5 p l=true->0<=t->t<s->s<=(H2 l:Rat)->(rN t l).1=true/\(rN t l).2*(s - t)<=Er s l - Er t l
|[],p,t,s,_,k,T,C=>by simp[H2]at C;grind
| a::r,p,t,s,h,k,T,C=>by
  obtain⟨hp,I,D⟩:=U0 h
  rw[H2,ZE]at C
  rw[rN]
  by_cases G:t<(a.width:Rat)
  ·rw[decide_eq_true k,decide_eq_true G]
   refine⟨rfl,?_⟩
   show(a.price:Rat)*(s - t)<=_
   rw[U4 rfl k (Rat.le_of_lt G)]
   by_cases Y:s<=(a.width:Rat)
   ·rw[U4 rfl (by grind) Y];grind
   ·rw[Ze D (by grind)]
    have:=nF I (t:=s - (a.width:Rat)) (by grind) (by grind)
    grind
  ·rw[decide_eq_false G,Acr,cond_false,Ze D (show(a.width:Rat)<=t by grind),Ze D (show(a.width:Rat)<=s by grind)]
   have L:=kG I (t:=t - (a.width:Rat)) (s:=s - (a.width:Rat)) (by grind) (by grind) (by grind)
   exact⟨L.1,by have:=L.2;grind⟩
def ZF:∀{l:List SegD}{p:Int}{t s:Rat},F5 p l=true->0<=s->s<t->t<=(H2 l:Rat)->(ot t l).1=true/\(ot t l).2*(s - t)<=Er s l - Er t l
|[],p,t,s,_,C,T,D=>by simp[H2]at D;grind
| a::r,p,t,s,h,C,T,D=>by
  obtain⟨hp,G,L⟩:=U0 h
  rw[H2,ZE]at D
  rw[ot]
  by_cases I:t<=(a.width:Rat)
  ·rw[decide_eq_true (show 0<t by grind),decide_eq_true I]
   refine⟨rfl,?_⟩
   show(a.price:Rat)*(s - t)<=_
   rw[U4 rfl (by grind) I,U4 rfl C (by grind)];grind
  ·rw[decide_eq_false I,Acr,cond_false,Ze L (show(a.width:Rat)<=t by grind)]
   by_cases Y:(a.width:Rat)<=s
   ·rw[Ze L Y]
    have k:=ZF G (t:=t - (a.width:Rat)) (s:=s - (a.width:Rat)) (by grind) (by grind) (by grind)
    exact⟨k.1,by have:=k.2;grind⟩
   ·have h5:s<=(a.width:Rat):=by grind
    rw[U4 rfl C h5]
    have k:=ZF G (t:=t - (a.width:Rat)) (s:=0) Abj (by grind) (by grind)
    refine⟨k.1,?_⟩
    have h6:=tV G k.1
    have h7:=Abw h6 (show 0<=(a.width:Rat) - s by grind)
    have h8:=k.2
    rw[dQ]at h8
    grind
def tW:∀{l:List SegD}{p:Int}{t:Rat},F5 p l=true->(ot t l).1=true->(rN t l).1=true->(ot t l).2<=(rN t l).2
|[],_,_,_,h,_=>by cases h
| a::r,p,t,h,k,D=>by
  obtain⟨L,G,T⟩:=U0 h
  rw[ot]at k ⊢
  rw[rN]at D ⊢
  by_cases I:t<(a.width:Rat)
  ·by_cases C:0<t
   ·rw[decide_eq_true C,decide_eq_true (show t<=(a.width:Rat) by grind),decide_eq_true (show 0<=t by grind),decide_eq_true I]
    exact Abj
   ·exfalso
    rw[decide_eq_false C,Adr,cond_false,rO (nD G) (by grind)]at k;cases k
  ·rw[decide_eq_false I,Acr,cond_false]at D ⊢
   by_cases C:t<=(a.width:Rat)
   ·rw[decide_eq_true (show 0<t by grind),decide_eq_true C]
    exact tU G D
   ·rw[decide_eq_false C,Acr,cond_false]at k ⊢
    exact tW G k D
end Gx
namespace Gx.Uo
open Go Go.Proofs
def ou{l:List SegD}{p:Int}(h:F5 p l=true):Conc (fun t=>-Er t l) 0 (H2 l:Rat):=by
 have key:∀ x z s:Rat,0<=x->x<=(H2 l:Rat)->0<=z->z<=(H2 l:Rat)->0<=s->s<=1->x<z->(1 - s)*-Er x l+s*-Er z l<=-Er ((1 - s)*x+s*z) l:=fun x z s C G I D T Y hxz=>by
  by_cases e0:s=0
  ·subst e0;rw[show(1 - (0:Rat))*x+0*z=x by grind];grind
  by_cases e1:s=1
  ·subst e1;rw[show(1 - (1:Rat))*x+1*z=z by grind];grind
  have s0:0<s:=by grind
  have s1:0<1 - s:=by grind
  have hm:0<z - x:=by grind
  have a1:0<s*(z - x):=Rat.mul_pos s0 hm
  have a2:0<(1 - s)*(z - x):=Rat.mul_pos s1 hm
  generalize L:(1 - s)*x+s*z=m
  have m1:x<m:=by grind
  have m2:m<z:=by grind
  obtain⟨b1,b2⟩:=kG h (t:=m) (s:=z) (by grind) m2 D
  obtain⟨c1,c2⟩:=ZF h (t:=m) (s:=x) C m1 (by grind)
  have lh:=tW h c1 b1
  generalize (rN m l).2=g at *
  generalize (ot m l).2=k at *
  have d1:=ml lh (show 0<=m - x by grind)
  have d2:g*(x - m)<=Er x l - Er m l:=by grind
  have d3:=ml d2 (show 0<=1 - s by grind)
  have d4:=ml b2 (show 0<=s by grind)
  have d5:(1 - s)*(g*(x - m))+s*(g*(z - m))=0:=by rw[<-L];grind
  grind
 intro x z s C G I D T Y
 by_cases e:x<z
 ·exact key x z s C G I D T Y e
 ·by_cases e2:z<x
  ·have:=key z x (1 - s) I D C G (by grind) (by grind) e2
   rw[show(1 - (1 - s))*z+(1 - s)*x=(1 - s)*x+s*z by grind]at this
   show(1 - s)*-Er x l+s*-Er z l<=-Er ((1 - s)*x+s*z) l
   grind
  ·have:x=z:=by grind
   subst this
   show(1 - s)*-Er x l+s*-Er x l<=-Er ((1 - s)*x+s*x) l
   rw[show(1 - s)*x+s*x=x by grind];grind
def Conc.shift{f:F1}{a b c:Rat}(h:Conc f a b):Conc (fun x=>f (x - c)) (a+c) (b+c):=fun x z s D G I L k C=>by
 have:=h (x - c) (z - c) s (by grind) (by grind) (by grind) (by grind) k C
 rw[show(1 - s)*(x - c)+s*(z - c)=(1 - s)*x+s*z - c by grind]at this
 exact this
def gp(mn:Int)(l:List SegD):F1:=fun x=>-Er (x - mn) l
def ov:List SegD->Int->Rat->Fv->Fv
|[],_,_,L=>L
|s::r,x,v,L=>ov r (x+s.width) (v - s.width*s.price) (W9 L (x+s.width) (v - s.width*s.price))
def rP{f:F1}{a:Int}:∀(r:List SegD)(p x:Int)(v:Rat)(L:Fv),F5 p r=true->Upto f L a x->(∀ t:Rat,0<=t->t<=(H2 r:Rat)->f (x+t)=v - Er t r)->Upto f (ov r x v L) a (x+H2 r)
|[],_,x,_,L,_,u,_=>by rw[ov,H2,Int.add_zero];exact u
| s::r,p,x,v,L,h,u,C=>by
  obtain⟨_,k,D⟩:=U0 h
  have I:0<s.width:=Aby.1 D
  have sw:(H2 (s::r):Rat)=(s.width:Rat)+(H2 r:Rat):=by rw[H2,Aam]
  have sr:(0:Rat)<=(H2 r:Rat):=by
   have:∀(r:List SegD)(p:Int),F5 p r=true->(0:Rat)<=(H2 r:Rat):=by
    intro r
    induction r with
    |nil=>intro _ _;exact Abj
    |cons a r T =>
     intro p h
     obtain⟨_,k,D⟩:=U0 h
     have:=T _ k
     rw[H2,Aam];grind
   exact this r _ k
  have fw:f ((x+s.width:Int):Rat)=v - s.width*s.price:=by
   rw[Aam,C _ (by grind) (by grind),U4 rfl (by grind) Abj];grind
  have u2:=u.add (x:=x+s.width) (by omega) ⟨-(s.price:Rat),v+s.price*x,fun t Y G=>by
   rw[Aam]at G
   have:=C (t - x) (by grind) (by grind)
   rw[U4 (w:=s.width) rfl (by grind) (by grind)]at this
   rw[show(x:Rat)+(t - x)=t by grind]at this
   rw[this];grind⟩
  rw[fw]at u2
  have:=rP r s.price (x+s.width) (v - s.width*s.price) _ k u2 fun t Y G=>by
   have:=C (s.width+t) (by grind) (by grind)
   rw[Ze D (by grind),show(s.width:Rat)+t - s.width=t by grind]at this
   rw[Aam,show(x:Rat)+s.width+t=x+(s.width+t) by grind,this];grind
  rw[ov,H2,show x+(s.width+H2 r)=x+s.width+H2 r by omega]
  exact this
def dR{mn mx p:Int}{l:List SegD}(h:F5 p l=true)(hs:H2 l=mx - mn):Upto (gp mn l) (ov l mn 0 [(mn,0)]) mn mx/\Conc (gp mn l) mn mx:=by
 have z:gp mn l mn=0:=by unfold gp;rw[show(mn:Rat) - mn=0 by grind,dQ];grind
 constructor
 ·have u0:Upto (gp mn l) [(mn,0)] mn mn:=by
   have:=Cv.one (gp mn l) mn
   rw[z]at this
   exact⟨this,rfl,rfl⟩
  have:=rP l p mn 0 [(mn,0)] h u0 fun t _ _=>by unfold gp;rw[show(mn:Rat)+t - mn=t by grind];grind
  rwa [hs,show mn+(mx - mn)=mx by omega]at this
 ·have:=(ou h).shift (c:=mn)
  rw[hs,zc,show((mx:Rat) - mn)+mn=mx by grind,show(0:Rat)+mn=mn by grind]at this
  exact this
end Gx.Uo
namespace Gx
open Go Go.Proofs
section
variable{R:Type}
variable{N:Nat}{K:Bool->O R}{a:List UInt8}{b d e:Int}{sg:List SegD}{c:Bool}{g i j l m t u w n o x p q:Int}{aw:List Int}{ab:Bool}{z aa r:Int}
def xp(a:Lu)(b d e:Int)(sg:List SegD)(c:Bool)(g i j l m t u w n o x p q:Int)(aw:List Int)(ab:Bool)(z aa r:Int):UnitD:=⟨a,b,d,e,.of sg false c,g,i,j,l,m,t,u,w,n,o,x,p,q,.of aw false ab,z,aa,r⟩
def rQ:[AV.str a,.int .i64 b,.int .i64 d,.int .i64 e,.imm (sg.flatMap SegD.av) sg.length 2 false c,.int .i64 g,.int .i64 i,.int .i64 j,.int .i64 l,.int .i64 m,.int .i64 t,.int .i64 u,.int .i64 w,.int .i64 n,.int .i64 o,.int .i64 x,.int .i64 p,.int .i64 q,.imm (Ao aw) aw.length 1 false ab,.int .i64 z,.int .i64 aa,.int .i64 r] =
  (xp a b d e sg c g i j l m t u w n o x p q aw ab z aa r).av:=by rw[<-Rc];rfl
end
end Gx
namespace Gx
open Go Go.Proofs
section
variable{R:Type}
def rR(x:RatD):Bool:=decide (x.ns.l.length<=4)&&decide (x.ds.l.length<=4)
def ow(l:List RatD):Bool:=decide (l.length<=30)&&l.all rR
def PX{l:List RatD}{j:Nat}(h:j<l.length):drop ((Int.toNat (j:Int))*3) (l.flatMap RatD.av)=l[j].av++(l.drop (j+1)).flatMap RatD.av:=by rw[zG,PN (e:=RatD.av) (sz:=3) (fun _=>rfl) _ _ h]
def wH{x:RatD}{r:LA}{f:LA->Nat->O R}:D6 1 (drop 1 (x.av++r)) f=f (Ad x.ns.l) x.ns.l.length:=by rw[show drop 1 (x.av++r)=x.ns.av::x.ds.av::r from rfl,YY]
def wI{x:RatD}{r:LA}{f:LA->Nat->O R}:D6 1 (drop 2 (x.av++r)) f=f (Ad x.ds.l) x.ds.l.length:=by rw[show drop 2 (x.av++r)=x.ds.av::r from rfl,YY]
def kH{N:Nat}{l:List RatD}{d e:Bool}{K:Bool->O R}(G:l.length<=1000):∀(m j k:Nat),j+m=l.length->m<k ->
  Nm N K (l.flatMap RatD.av) l.length d e k (j:Int)=K ((l.drop j).all rR)
|0,j,k+1,I,_=>by
  rw[Nm];unfold X4
  rw[Wc (by omega),cf,GN (by omega),List.all_nil]
| m+1,j,k+1,I,L=>by
  rw[Nm];unfold X4
  have h:j<l.length:=by omega
  rw[T6 h,ct,Aa h,ct,PX h,wH,ct,wI,wS (by omega),kH G m (j+1) k (by omega) (by omega),DB h,Ad5]
  generalize (drop (j+1) l).all rR=t
  unfold rR
  by_cases C:l[j].ns.l.length<=4
  ·rw[show(decide ((l[j].ns.l.length:Int)>4)==false)=true by simp;omega,ct,decide_eq_true C]
   by_cases D:l[j].ds.l.length<=4
   ·rw[show decide ((l[j].ds.l.length:Int)>4)=false by simp;omega,xT,cf,decide_eq_true D];cases t<;>rfl
   ·rw[show decide ((l[j].ds.l.length:Int)>4)=true by simp;omega,decide_eq_false D];cases t<;>rfl
  ·rw[show(decide ((l[j].ns.l.length:Int)>4)==false)=false by simp;omega,cf,decide_eq_false C];rfl
def kI{N:Nat}{l:List RatD}{n:Nat}{d e:Bool}{K:Bool->O R}(k:n=l.length)(hN:1000<=N):OP N (l.flatMap RatD.av) n d e K=K (ow l):=by
 subst k
 rw[WS];unfold UD ow
 by_cases h:l.length<=30
 ·rw[show decide ((l.length:Int)>30)=false by simp;omega,cf,decide_eq_true h,Bool.true_and]
  have:=kH (N:=N) (l:=l) (d:=d) (e:=e) (K:=K) (by omega) l.length 0 N (by omega) (by omega)
  rw[zy]at this;exact this
 ·rw[show decide ((l.length:Int)>30)=true by simp;omega,ct,decide_eq_false h];rfl
end
end Gx
namespace Gx.Uo
open Go Go.Proofs
section
variable{R:Type}{N:Nat}{X:O R}
def VOk(V:List RatD)(L:Fv):Prop:=V.length=L.length/\∀ i (h:i<V.length) (h':i<L.length),V[i].can L[i].2
def Eg(L:Fv):List Int:=L.map (·.1)
structure PB(M:Nat)(L:Fv):Prop where
 x:∀ p∈L,-10000000<=p.1/\p.1<=10000000
 q:∀ p∈L,qm p.2<=M
 n:L.length<=30000000
def dS{n k:Nat}(h:k<=n)(C:n<=1000000000000):wrap .i64 ((n:Int) - (k:Int))=((n - k:Nat):Int):=by rw[Aq _ (by omega)];omega
def tX{l:List Int}{j:Nat}(h:j<l.length){f:Int->O R}:Am .i64 (drop (0+((Int.toNat (j:Int))*1)) (Ao l)) f=f l[j]:=by rw[zU];exact Dh h
def yS{V:List RatD}{j:Nat}(h:j<V.length):take 3 (drop (0+(Int.toNat (j:Int))*3) (V.flatMap RatD.av))=V[j].av:=by rw[zU,PX h];rfl
def wJ{V:List RatD}{j:Nat}(h:j<V.length):ble 3 (drop (0+(Int.toNat (j:Int))*3) (V.flatMap RatD.av)).length=true:=by rw[zU,PX h];rfl
def ua{p q:Rat}:(PU p q==0)=decide (p=q):=by
 rw[Aa1,beq_iff_eq,decide_eq_true_eq]
 unfold PU
 constructor
 ·intro h;split at h
  ·cases h
  ·split at h
   ·cases h
   ·grind
 ·rintro rfl;simp[Rat.lt_irrefl]
def rS{V:List RatD}{n:Nat}(h:n<=V.length):(V.flatMap RatD.av).take (n*3)=(V.take n).flatMap RatD.av:=by
 induction V generalizing n with
|nil=>simp
| cons a r k =>
  cases n with
  |zero=>simp
  |succ n =>
   rw[Aad,List.take_succ_cons,Aad,List.take_append,show(n+1)*3 - a.av.length=n*3 by show(n+1)*3 - 3=_;omega,k (by simpa using h),zF (by show 3<=_;omega)]
def AJ(V:List RatD):(V.flatMap RatD.av).length=V.length*3:=by
 induction V with
|nil=>rfl
|cons a r k=>rw[Aad,zq,k,z8];show 3+_=_;omega
def VOk.snoc{V:List RatD}{L:Fv}(h:VOk V L){d:RatD}{x:Int}{v:Rat}(k:d.can v):VOk (V++[d]) (L++[(x,v)]):=by
 refine⟨by simp[h.1],fun i C D=>?_⟩
 by_cases hi:i<V.length
 ·rw[za hi,za (by rw[<-h.1];exact hi)];exact h.2 i hi _
 ·have:i=V.length:=by simp at C;omega
  subst this
  rw[Aa2 (by omega),Aa2 (by rw[h.1];omega)]
  simpa using k
def VOk.take{V:List RatD}{L:Fv}(h:VOk V L)(n:Nat):VOk (V.take n) (L.take n):=by
 refine⟨by rw[zT,zT,h.1],fun i k C=>?_⟩
 rw[zT]at k C
 rw[Aaz,Aaz];exact h.2 i (by omega) (by omega)
def PQ{K:Nat->Nat->LA->Bool->LA->O R}{x:Int}{v:Rat}{d:RatD}{g e:Bool}{L:Fv}{V:List RatD}{n:Nat}(hV:VOk V L)(k:d.can v)(D:n<=L.length)(G:L.length<=30000000)
  (h:∀ V',VOk V' (L.take n++[(x,v)])->K (L.take n++[(x,v)]).length (L.take n++[(x,v)]).length (Ao (Eg (L.take n++[(x,v)]))) (e||(g||false)) (V'.flatMap RatD.av)=X) :
  Fn N K x (Ao (Eg L)) e (V.flatMap RatD.av) g d.av n n=X:=by
 have hV1:=hV.1
 unfold Fn
 rw[show ble (n+1) 140737488355328=true by rw[zo];omega,show ble ((n+1)*8) 140737488355328=true by rw[zo];omega,show ble ((n+1)*56) 140737488355328=true by rw[zo];omega]
 show K (n+1) (n+1) ((Ao (Eg L)).take (n*1)++[.int .i64 x]) (e||(g||false)) ((V.flatMap RatD.av).take (n*3)++d.av)=X
 have:=h (V.take n++[d]) ((hV.take n).snoc k)
 have e1:(L.take n++[(x,v)]).length=n+1:=by rw[zq,zT];simp;omega
 have C:Ao (Eg (L.take n++[(x,v)]))=(Ao (Eg L)).take (n*1)++[.int .i64 x]:=by
  unfold Eg Ao;simp[Ae1]
 have e3:(V.take n++[d]).flatMap RatD.av=(V.flatMap RatD.av).take (n*3)++d.av:=by
  rw[Ach,rS (by omega)];simp
 rw[e1,C,e3]at this
 exact this
def tY{K:Nat->Nat->LA->Bool->LA->O R}{x:Int}{v:Rat}{d:RatD}{g e:Bool}{L:Fv}{V:List RatD}{M:Nat}(hV:VOk V L)(D:d.can v)(hP:PB M L)(hv:qm v<=M)(hx:-10000000<=x/\x<=10000000)(C:fit (100*M+1000) N)
  (h:∀ V',VOk V' (W9 L x v)->K (W9 L x v).length (W9 L x v).length (Ao (Eg (W9 L x v))) (e||(g||false)) (V'.flatMap RatD.av)=X) :
  Dq N x d.av g L.length L.length (Ao (Eg L)) e (V.flatMap RatD.av) K=X:=by
 have G:=hP.n;have hV1:=hV.1
 rw[Po];unfold Jy
 by_cases h2:2<=L.length
 ·have i1:L.length - 1<L.length:=by omega
  have i2:L.length - 2<L.length:=by omega
  have xl:(Eg L).length=L.length:=Aa5 ..
  have x1:(Eg L)[L.length - 1]'(by omega)=L[L.length - 1].1:=Aay ..
  have x2:(Eg L)[L.length - 2]'(by omega)=L[L.length - 2].1:=Aay ..
  have b1:=hP.x _ (zQ i1);have b2:=hP.x _ (zQ i2)
  have q1:=hP.q _ (zQ i1);have q2:=hP.q _ (zQ i2)
  have c1:=hV.2 (L.length - 1) (by omega) i1;have c2:=hV.2 (L.length - 2) (by omega) i2
  have w1:wrap .i64 ((L.length:Int) - 1)=((L.length - 1:Nat):Int):=dS (k:=1) (by omega) (by omega)
  have w2:wrap .i64 ((L.length:Int) - 2)=((L.length - 2:Nat):Int):=dS (k:=2) (by omega) (by omega)
  have wx:wrap .i64 (x - L[L.length - 1].1)=x - L[L.length - 1].1:=Aq _ (by omega)
  have wy:wrap .i64 (L[L.length - 1].1 - L[L.length - 2].1)=L[L.length - 1].1 - L[L.length - 2].1:=Aq _ (by omega)
  rw[decide_eq_true (show((L.length:Int)>=2) by omega),ct,w1,w2,Aa i1,ct,Aa i2,ct,wJ (by omega),ct,wJ (by omega),ct,yS (by omega),yS (by omega)]
  have s1:=DI L[L.length - 1].2 L[L.length - 2].2
  have s2:=DI v L[L.length - 1].2
  have t1:=qi (v:=x - L[L.length - 1].1) (by omega)
  have t2:=qi (v:=L[L.length - 1].1 - L[L.length - 2].1) (by omega)
  have m1:=Mn (L[L.length - 1].2 - L[L.length - 2].2) ((x - L[L.length - 1].1:Int):Rat)
  have m2:=Mn (v - L[L.length - 1].2) ((L[L.length - 1].1 - L[L.length - 2].1:Int):Rat)
  refine ZD c1 c2 (C.le (by omega)) fun a ha=>?_
  rw[tX (by omega),x1,wx]
  refine Dl (by omega) (by have:=C.1;omega) fun b hb=>?_
  refine DJ ha hb (C.le (by omega)) fun c hc=>?_
  rw[c3,ct,G_,b3,ct]
  refine ZD D c1 (C.le (by omega)) fun a' I=>?_
  rw[tX (by omega),x1,ct,tX (by omega),x2,wy]
  refine Dl (by omega) (by have:=C.1;omega) fun b' T=>?_
  refine DJ I T (C.le (by omega)) fun c' Y=>?_
  rw[c3,ct,b3,ct,b3,ct,G_,G_,wE (hc.is (m:=2*M+100) (by omega)) (Y.is (m:=2*M+100) (by omega)) (C.le (by omega)),ua]
  have ea:kS L x v=decide ((L[L.length - 1].2 - L[L.length - 2].2)*((x - L[L.length - 1].1:Int):Rat)=(v - L[L.length - 1].2)*((L[L.length - 1].1 - L[L.length - 2].1:Int):Rat)):=by
   unfold kS;rw[dif_pos h2,zc,zc];rfl
  rw[<-ea]
  unfold W9 at h
  cases hA:kS L x v with
  |true =>
   rw[hA]at h
   rw[ct,decide_eq_true (show(0:Int)<=0 by omega),decide_eq_true (show(0:Int)<=((L.length - 1:Nat):Int) by omega),decide_eq_true (show((L.length - 1:Nat):Int)<=(L.length:Int) by omega),decide_eq_true (show(L.length:Int)<=(L.length:Int) by omega)]
   rw[show(if true=true then L.take (L.length - 1)else L)=L.take (L.length - 1)from rfl]at h
   exact PQ (N:=N) (n:=L.length - 1) hV D (by omega) G h
  |false =>
   rw[hA]at h
   rw[cf]
   rw[show(if false=true then L.take (L.length - 1)else L)=L from rfl]at h
   refine PQ (N:=N) hV D (zE _) G ?_
   rw[zd];exact h
 ·rw[decide_eq_false (show ¬ ((L.length:Int)>=2) by omega),cf]
  refine PQ (N:=N) hV D (zE _) G ?_
  have:W9 L x v=L.take L.length++[(x,v)]:=by
   unfold W9 kS;rw[dif_neg h2];simp
  rw[<-this];exact h
def Mx(L:Fv)(V:List RatD)(j:Bool):LA:=[.imm (Ao (Eg L)) L.length 1 false false,.imm (V.flatMap RatD.av) L.length 3 false j]
def MW(L:Fv)(x:Int)(v:Rat):(W9 L x v).length<=L.length+1:=by unfold W9;split<;>simp<;>omega
def kJ{L:Fv}{x:Int}{v:Rat}{p:Int×Rat}(h:p∈W9 L x v):p∈L\/p=(x,v):=by
 unfold W9 at h
 rcases zP.1 h with h|h
 ·left;split at h
  ·exact Ab7 h
  ·exact h
 ·right;simpa using h
def PB.add{M:Nat}{L:Fv}{x:Int}{v:Rat}(h:PB M L)(D:qm v<=M)(G:-10000000<=x/\x<=10000000)(I:L.length<30000000):PB M (W9 L x v):=by
 refine⟨fun p k=>?_,fun p k=>?_,by have:=MW L x v;omega⟩
 ·rcases kJ k with C|rfl
  ·exact h.x _ C
  ·exact G
 ·rcases kJ k with C|rfl
  ·exact h.q _ C
  ·exact D
def H3(l:List Int):(Ao l).length=l.length:=by unfold Ao;simp
def rT(L:Fv):(Ao (Eg L)).take (L.length*1)=Ao (Eg L):=zF (by rw[H3];unfold Eg;simp)
def rU{L:Fv}{V:List RatD}(h:VOk V L):(V.flatMap RatD.av).take (L.length*3)=V.flatMap RatD.av:=zF (by rw[AJ,h.1];omega)
def sf{w p:Int}(h:-1048576<=w/\w<=1048576/\-1048576<=p/\p<=1048576):-1099511627776<=w*p/\w*p<=1099511627776:=by
 have k:=Abl w p
 have C:w.natAbs*p.natAbs<=1048576*1048576:=Aa4 (by omega) (by omega)
 omega
def nG{K:LA->Bool->O R}{u:UnitD}{M:Nat}{o:Bool}(T:wD u.segs.l)(h8:u.segs.l.length<=8)(hM:2<=M)(G:fit (100*M+1000) N):∀(m j k:Nat)(x c:Int)(L:Fv)(V:List RatD)(d:RatD),j+m=u.segs.l.length->m<k->d.can (c:Rat)->VOk V L->PB M L->L.length<=j+1 ->
  -1048576*((j:Int)+1)<=x->x<=1048576*((j:Int)+1)->-2000000000000*(j:Int)<=c->c<=2000000000000*(j:Int) ->
  (∀ V',VOk V' (ov (u.segs.l.drop j) x c L)->PB M (ov (u.segs.l.drop j) x c L)->K (Mx (ov (u.segs.l.drop j) x c L) V' false) false=X) ->
  C3 N K (u.segs.l.flatMap SegD.av) u.segs.l.length o k x (u.segs.l.length:Int) (j:Int) L.length L.length d.av (Ao (Eg L)) false (V.flatMap RatD.av)=X
|0,j,k+1,x,c,L,V,d,hj,_,Y,hV,hP,hL,_,_,_,_,h=>by
  rw[C3];unfold Gp
  rw[Wc (by omega),cf,rT,rU hV]
  have:=h V
  rw[GN (by omega),ov]at this
  exact this hV hP
|m+1,j,k+1,x,c,L,V,d,hj,hfu,Y,hV,hP,hL,x1,x2,c1,c2,h=>by
  rw[C3];unfold Gp
  have C:j<u.segs.l.length:=by omega
  have hr:=T u.segs.l[j] (zQ C)
  rw[T6 C,ct,Aa C,ct,YO C]
  have p0:take 2 ((AV.int .i64 u.segs.l[j].width)::(AV.int .i64 u.segs.l[j].price)::(u.segs.l.drop (j+1)).flatMap SegD.av)=[.int .i64 u.segs.l[j].width,.int .i64 u.segs.l[j].price]:=rfl
  rw[p0,show ble 2 (List.length ((AV.int .i64 u.segs.l[j].width)::(AV.int .i64 u.segs.l[j].price)::(u.segs.l.drop (j+1)).flatMap SegD.av))=true by simp,ct]
  rw[show((!o)||Bs [AV.int .i64 u.segs.l[j].width,.int .i64 u.segs.l[j].price])=true by cases o<;>rfl,ct]
  rw[show((beq (List.length [AV.int .i64 u.segs.l[j].width,.int .i64 u.segs.l[j].price]) 2)&&((ble 2 2)&&(!false)))=true from rfl,ct]
  rw[YP,b3,ct,YP]
  simp only[UI]
  have iw:=qi (v:=u.segs.l[j].width) (by omega)
  have ip:=qi (v:=u.segs.l[j].price) (by omega)
  have hp:=sf hr
  have ic:=qi (v:=c) (by omega)
  have m1:=Mn (u.segs.l[j].width:Rat) (u.segs.l[j].price:Rat)
  refine Dl (by omega) (by have:=G.1;omega) fun a ha=>?_
  refine Dl (by omega) (by have:=G.1;omega) fun b hb=>?_
  refine DJ ha hb (G.le (by omega)) fun e he=>?_
  rw[G_]
  refine ZD Y he (G.le (by omega)) fun d' D=>?_
  rw[<-Adf,<-zc]at D
  rw[yQ,ct,wC,b3,ct,G_,Aq _ (by omega),wS (by omega)]
  have I:qm ((c - u.segs.l[j].width*u.segs.l[j].price:Int):Rat)<=M:=Aal (qi (by omega)) hM
  refine tY hV D hP I (by omega) G fun V' hV'=>?_
  refine nG T h8 hM G m (j+1) k _ _ _ V' d' (by omega) (by omega) D hV' (hP.add I (by omega) (by omega)) (by have:=MW L (x+u.segs.l[j].width) ((c - u.segs.l[j].width*u.segs.l[j].price:Int):Rat);omega) (by omega) (by omega) (by omega) (by omega) fun V2 h1 h2=>?_
  have:=h V2
  rw[DB C,ov,<-Adf,<-zc]at this
  exact this h1 h2
def Pd(u:UnitD):Fv:=ov u.segs.l u.min 0 [(u.min,0)]
def wK{K:LA->Bool->O R}{u:UnitD}{M:Nat}{o:Bool}(I:wD u.segs.l)(L:u.segs.l.length<=8)(hm:-1048576<=u.min/\u.min<=1048576)(hM:2<=M)(C:fit (100*M+1000) N)
  (h:∀ V,VOk V (Pd u)->PB M (Pd u)->K (Mx (Pd u) V false) false=X):Hz N u.av o K=X:=by
 rw[Pp];unfold Jz
 rw[u2]
 refine Dl (by omega) (by have:=C.1;omega) fun a T=>?_
 rw[show(beq (List.length a.av) 3&&ble 3 3)=true from rfl,ct,u2]
 refine Dl (by omega) (by have:=C.1;omega) fun b Y=>?_
 rw[c3,ct,u4]
 have z2:qm ((0:Int):Rat)<=2:=qi (by omega)
 refine nG I L hM C u.segs.l.length 0 N u.min 0 [(u.min,((0:Int):Rat))] [a] b (by omega) (by have:=C.1;omega) Y ⟨rfl,fun i D G=>?_⟩ ⟨fun p k=>?_,fun p k=>?_,by simp⟩ (by simp) (by omega) (by omega) (by omega) (by omega) fun V D G=>?_
 ·have:i=0:=by simp at D;omega
  subst this;exact T
 ·simp at k;subst k;show -10000000<=u.min/\u.min<=10000000;omega
 ·simp at k;subst k;show qm ((0:Int):Rat)<=M;omega
 ·rw[zy]at D G;exact h V D G
def ud{K:LA->O R}{ys:List Int}(I:1<=ys.length)(L:ys.length<=16777216)(k:∀ t∈ys,-9223372036854775808<=t/\t<=9223372036854775807)(h:K (Ao (CW ys))=X):D0 N ys.length (Ao ys) K=X:=by
 rw[Ed];unfold Em
 have e1:(Ao ys).take ys.length=Ao ys:=zF (by rw[H3];omega)
 have C:(Ao ys).drop ys.length=[]:=Aaa (by rw[H3];omega)
 have e3:(Ao ys).all gQ=true:=by
  rw[Acb];unfold Ao;intro x D
  obtain⟨t,G,rfl⟩:=zr.1 D
  have:=k t G
  show(decide _&&decide _)=true
  rw[decide_eq_true this.1,decide_eq_true this.2];rfl
 have e4:(Ao ys).map pK=ys:=by unfold Ao;rw[Abp];exact List.map_id _
 rw[e1,C,e3,e4,show ble 1 ys.length=true by rw[zo];omega,show ble ys.length 16777216=true by rw[zo];omega]
 rw[Abz];exact h
def rV(ys:List Int):(CW ys).Pairwise (·<=·):=by
 have:=List.pairwise_mergeSort (le:=fun x y:Int=>decide (x<=y)) (fun a b c k C=>by simp at *;omega) (fun a b=>by simp;omega) ys
 exact this.imp fun h=>by simpa using h
def oz{ys:List Int}{t:Int}:t∈CW ys↔t∈ys:=List.mem_mergeSort
def PY{ys:List Int}:(CW ys).length=ys.length:=Aeo _
def wL{l:List Int}{j:Nat}(h:j<l.length){f:Int->O R}:Am .i64 (drop j (Ao l)) f=f l[j]:=by
 have:=tX (R:=R) h (f:=f)
 rwa [zG,zU,zY]at this
def Asc.of{P:List Int}(h:P.Pairwise (·<·)):Asc P:=fun i hi=>Aag.1 h i (i+1) (by omega) hi (by omega)
def xq{K:Nat->LA->O R}{Q:Int->O R}{b:LA}{xs:List Int}(hs:xs.Pairwise (·<=·))(hN:xs.length<=30000000)
  (h:∀ P Gl,Asc P->(∀ t,t∈P↔t∈xs)->P.length<=xs.length->K P.length (Ao P++Gl)=X) {i:Nat} (hi:i<xs.length):∀(m f k:Nat)(P G:List Int),i+f+m=xs.length->m<k->1<=f->P.Pairwise (·<·)->(∀ t,t∈P↔t∈xs.take (i+f))->P.length<=i+f - 1->G.length=xs.length->G.take P.length=P->G.drop (i+f - 1)=xs.drop (i+f - 1) ->
  Bl N Q K xs.length b k (P.length:Int) i (xs.length - i) (f:Int) (Ao G)=X
|0,f,k+1,P,G,hm,_,L,D,C,hl,hG,hGt,hGd=>by
  rw[Bl];unfold Ek
  rw[Wc (by omega),cf,decide_eq_true (show(0:Int)<=P.length by omega),decide_eq_true (show(P.length:Int)<=(xs.length:Nat) by omega),decide_eq_true (show(xs.length:Int)<=(xs.length:Nat) by omega),decide_eq_true (show(0:Int)<=0 by omega)]
  show K P.length (D8 (Ao G) (0+P.length*1) _)=X
  unfold D8
  rw[zU,zY,Aa9,show(Ao G).take P.length=Ao P by unfold Ao;rw[<-Ae1,hGt]]
  refine h P _ (Asc.of D) (fun t=>?_) (by omega)
  rw[C t,zF (by omega)]
| m+1,f,k+1,P,G,hm,hfu,L,D,C,hl,hG,hGt,hGd=>by
  rw[Bl];unfold Ek
  have T:G[i+f]'(by omega)=xs[i+f]:=by
   have:=congrArg (fun l=>l[1]?) hGd
   simp only[zk]at this
   rw[show i+f - 1+1=i+f by omega,zD (by omega),zD (by omega)]at this
   exact Aej this
  have g0:G[i+f - 1]'(by omega)=xs[i+f - 1]:=by
   have:=congrArg (fun l=>l[0]?) hGd
   simp only[zk]at this
   rw[zg,zD (by omega),zD (by omega)]at this
   exact Aej this
  have e0:wrap .i64 ((f:Int) - 1)=((f - 1:Nat):Int):=dS L (by omega)
  have Y:G.drop (i+(f+1) - 1)=xs.drop (i+(f+1) - 1):=by
   have:=congrArg (drop 1) hGd
   rw[Aeq,Aeq]at this
   rwa [show i+f - 1+1=i+(f+1) - 1 by omega]at this
  have tk:xs.take (i+(f+1))=xs.take (i+f)++[xs[i+f]]:=by rw[<-Aaf,zu (by omega)]
  rw[T6 (by omega),ct,Aa (by omega),ct,zG,zY,wL (by omega),e0,Aa (by omega),ct,zG,zY,show i+(f - 1)=i+f - 1 by omega,wL (by omega),T,g0]
  have le1:xs[i+f - 1]<=xs[i+f]:=Aag.1 hs _ _ (by omega) (by omega) (by omega)
  by_cases I:xs[i+f]=xs[i+f - 1]
  ·rw[show(xs[i+f] != xs[i+f - 1])=false by rw[I];simp,cf,wS (by omega)]
   refine xq hs hN h hi m (f+1) k P G (by omega) (by omega) (by omega) D (fun t=>?_) (by omega) hG hGt Y
   rw[tk,C t,zP,Abm]
   constructor
   ·exact .inl
   ·rintro(h|rfl)
    ·exact h
    ·rw[I];exact Abn.2 ⟨i+f - 1,by omega,rfl⟩
  ·rw[show(xs[i+f] != xs[i+f - 1])=true by simp[I],ct,Aa (by omega),wL (by omega),T,ct,H3,zU,zG,zY,show(beq 1 1&&(ble (P.length+1) G.length&&!false))=true by
    rw[show ble (P.length+1) G.length=true by rw[zo];omega];rfl,ct,wS (by omega),wS (by omega)]
   have es:(Ao G).set P.length (.int .i64 xs[i+f])=Ao (G.set P.length xs[i+f]):=by unfold Ao;rw[Adm]
   have el:(P++[xs[i+f]]).length=P.length+1:=by simp
   rw[es,<-el]
   refine xq hs hN h hi m (f+1) k (P++[xs[i+f]]) _ (by omega) (by omega) (by omega) ?_ (fun t=>?_) (by omega) (by simpa using hG) ?_ ?_
   ·rw[Ab8]
    refine⟨D,by simp,fun t ht y hy=>?_⟩
    rw[Abm]at hy;subst hy
    obtain⟨j,hj,rfl⟩:=Abn.1 ((C t).1 ht)
    by_cases ej:j=i+f - 1
    ·subst ej;omega
    ·have:=Aag.1 hs j (i+f - 1) (by omega) (by omega) (by omega);omega
   ·rw[tk,zP,zP,C t]
   ·rw[el,List.take_set,zu (by omega),hGt,Aep _ _ (zE _),Adp];rfl
   ·rw[Aex (by omega)];exact Y
def yT{K:Nat->LA->O R}{xs:List Int}(hs:xs.Pairwise (·<=·))(hN:xs.length<=30000000)(hNN:40000000<=N)
  (h:∀ P Gl,Asc P->(∀ t,t∈P↔t∈xs)->P.length<=xs.length->K P.length (Ao P++Gl)=X):∀(m d k:Nat),d+m=xs.length->m<k->1<=d->(xs.take d).Pairwise (·<·) ->
  A8 N K xs.length (Ao xs) k (d:Int)=X
|0,d,k+1,T,_,G,C=>by
  rw[A8];unfold El
  rw[Wc (by omega),cf]
  have:=h xs [] (Asc.of (by rwa [zF (by omega)]at C)) (fun t=>Iff.rfl) (zE _)
  rwa [Abz]at this
| m+1,d,k+1,T,Y,G,C=>by
  rw[A8];unfold El
  have e0:wrap .i64 ((d:Int) - 1)=((d - 1:Nat):Int):=dS G (by omega)
  rw[T6 (by omega),ct,Aa (by omega),ct,tX (by omega),e0,Aa (by omega),ct,tX (by omega)]
  have le1:xs[d - 1]<=xs[d]:=Aag.1 hs _ _ (by omega) (by omega) (by omega)
  by_cases D:xs[d]=xs[d - 1]
  ·rw[show(xs[d]==xs[d - 1])=true by simp[D],ct,decide_eq_true (show(0:Int)<=(d:Int) by omega),decide_eq_true (show(d:Int)<=(xs.length:Int) by omega),decide_eq_true (show(xs.length:Int)<=(xs.length:Int) by omega)]
   show Bl N _ K xs.length (Ao xs) N (d:Int) (0+d*1) (xs.length - d) ((1:Nat):Int) (Ao xs)=X
   rw[zU,zY]
   have I:(xs.take d).length=d:=by rw[zT];omega
   have:=xq (N:=N) (Q:=A8 N K xs.length (Ao xs) k) (b:=Ao xs) hs hN h (i:=d) (by omega) m 1 N (xs.take d) xs (by omega) (by omega) (zE _) C (fun t=>by
    rw[zu (by omega),zP,Abm]
    constructor
    ·exact .inl
    ·rintro(h|rfl)
     ·exact h
     ·rw[D];exact Abn.2 ⟨d - 1,by omega,rfl⟩) (by omega) rfl (by rw[I]) rfl
   rw[I]at this;exact this
  ·rw[show(xs[d]==xs[d - 1])=false by simp[D],cf,wS (by omega)]
   refine yT hs hN hNN h m (d+1) k (by omega) (by omega) (by omega) ?_
   rw[zu (by omega),Ab8]
   refine⟨C,by simp,fun t ht y L=>?_⟩
   rw[Abm]at L;subst L
   obtain⟨j,hj,rfl⟩:=Abn.1 ht
   by_cases ej:j=d - 1
   ·subst ej;omega
   ·have:=Aag.1 hs j (d - 1) (by omega) (by omega) (by omega);omega
def pA{K:Nat->LA->O R}{xs:List Int}(hs:xs.Pairwise (·<=·))(k:2<=xs.length)(hN:xs.length<=30000000)(hNN:40000000<=N)
  (h:∀ P Gl,Asc P->(∀ t,t∈P↔t∈xs)->P.length<=xs.length->K P.length (Ao P++Gl)=X):B3 N xs.length (Ao xs) K=X:=by
 rw[Lb];unfold F0
 rw[decide_eq_false (by omega),cf]
 refine yT hs hN hNN h (xs.length - 1) 1 N (by omega) (by omega) (by omega) ?_
 match xs,k with
|a::r,_=>simp
end
end Gx.Uo
namespace Gx
open Go Go.Proofs
section
variable{R:Type}
def sh(q:Rat):q*(q.den:Rat)=(q.num:Rat):=by
 have C:(q.den:Rat)≠0:=by
  have:=q.den_pos
  exact Afg (Adg.2 this)
 have k:q=(q.num:Rat)/((q.den:Int):Rat):=by rw[<-Rat.divInt_eq_div,Rat.num_divInt_den]
 have D:((q.den:Int):Rat)=(q.den:Rat):=rfl
 rw[D]at k
 calc q*(q.den:Rat)=(q.num:Rat)/(q.den:Rat)*(q.den:Rat):=by rw[<-k]
  _=q.num:=Afa C
end
end Gx
namespace Gx.Uo
open Go Go.Proofs
section
variable{R:Type}{N:Nat}{X:O R}
def wM{y:RatD}{q:Rat}(h:y.can q)(I:q≠0):(⟨y.neg,y.ds,y.ns⟩:RatD).q=q⁻¹:=by
 have L:=q.den_pos
 have Y:q.num≠0:=fun e=>I (Adh.1 e)
 have T:=sh q
 have hdR:(q.den:Rat)≠0:=Afg (Adg.2 L)
 have e1:(⟨y.neg,y.ds,y.ns⟩:RatD).q=mkRat (if q.num<0 then -(q.den:Int)else(q.den:Int)) q.num.natAbs:=by
  show mkRat (Ar y.neg y.ds) (val y.ns.l)=_
  unfold Ar
  rw[h.1,h.2.1,h.2.2,Af,Af]
  by_cases C:q.num<0
  ·rw[decide_eq_true C,if_pos C,if_pos rfl]
  ·rw[decide_eq_false C,if_neg C,if_neg (by simp)]
 have k:(q.num.natAbs:Rat)≠0:=Afg (Adg.2 (by omega))
 have e2:mkRat (if q.num<0 then -(q.den:Int)else(q.den:Int)) q.num.natAbs*q=1:=by
  rw[Ac6]
  by_cases C:q.num<0
  ·rw[if_pos C]
   have e3:(q.num.natAbs:Rat)=-(q.num:Rat):=by
    have G:(q.num.natAbs:Int)=-q.num:=by omega
    have D:((q.num.natAbs:Int):Rat)=((-q.num:Int):Rat):=by rw[G]
    rw[Rat.intCast_neg]at D
    exact D
   have e4:((-(q.den:Int):Int):Rat)=-(q.den:Rat):=by rw[Rat.intCast_neg];rfl
   rw[e4]
   rw[e3]at k ⊢
   rw[Aca]
   have:=Aco _ k
   grind
  ·rw[if_neg C]
   have e3:(q.num.natAbs:Rat)=(q.num:Rat):=by
    have G:(q.num.natAbs:Int)=q.num:=by omega
    have D:((q.num.natAbs:Int):Rat)=(q.num:Rat):=by rw[G]
    exact D
   have e4:(((q.den:Int):Int):Rat)=(q.den:Rat):=rfl
   rw[e4]
   rw[e3]at k ⊢
   rw[Aca]
   have:=Aco _ k
   grind
 rw[e1]
 have:=Aco q I
 grind
def ue{K:LA->Bool->O R}{x y:RatD}{p q:Rat}{o:Bool}(D:x.can p)(k:y.can q)(L:q≠0)(T:fit (8*(qm p+qm q)+40) N)(h:∀ d:RatD,d.can (p/q)->K d.av true=X):gG N x.av o y.av false K=X:=by
 let C:RatD:=⟨y.neg,.of y.ds.l false false,.of y.ns.l false false⟩
 have G:C.m=qm q:=by rw[<-k.m];show max _ _=max _ _;exact Nat.max_comm _ _
 have I:C.q=q⁻¹:=wM k L
 obtain⟨d,Y,d2⟩:=PV (R:=R) (N:=N) (x:=x) (y:=C) (o:=o) (o':=(false||(false||false))) D.ok ⟨k.ok.2,k.ok.1⟩ (by rw[G,D.m];exact T)
 rw[I,D.q,<-Aca]at Y
 have hs:(q.num.sign==0)=false:=by
  rw[beq_eq_false_iff_ne];intro e
  exact L (Adh.1 (Adu.1 e))
 rw[W_];unfold gF
 rw[b3,ct,G_,Gh k.ok (T.le (by rw[k.m];omega)),k.q,hs,cf,b3,ct,G_]
 show Zu y.av _=_
 have hb:∀ f:Bool->O R,Zu y.av f=f y.neg:=fun f=>rfl
 rw[hb,Y_,oh]
 have e:([.bool y.neg,.imm (Ad y.ds.l) y.ds.l.length 1 false false,.imm (Ad y.ns.l) y.ns.l.length 1 false false]:LA)=C.av:=rfl
 rw[e,d2];exact h d Y
def wN{a b:Int}{r0:Bool->O R}:Qe N a b r0=r0 (decide (a<b)):=by
 rw[Wk];unfold Vf
 rw[L6];unfold L5
 rw[show(a != a)=false by simp];rfl
def gq{xs:List Int}{c:Int}{f g:Bool}{r0:Int->Bool->O R}(hs:xs.Pairwise (·<·))(hl:xs.length<=30000000)(h1:∀ p (h:p<xs.length),xs[p]=c->r0 (p:Int) true=X)(h0:∀ p:Nat,p<=xs.length->(∀ k (h:k<xs.length),k<p->xs[k]<c)->(∀ k (h:k<xs.length),p<=k->c<xs[k])->r0 (p:Int) false=X):
  ∀(C b i:Nat),b<=i->i<=xs.length->i - b<C->(∀ k (h:k<xs.length),k<b->xs[k]<c)->(∀ k (h:k<xs.length),i<=k->c<=xs[k]) ->
   Bo N r0 (Ao xs) xs.length f g c C (xs.length:Int) (b:Int) (i:Int)=X
|0,_,_,_,_,h,_,_=>by omega
| C+1,b,i,hbi,I,hfu,a1,a2=>by
  have mono:=Aag.1 hs
  rw[Bo];unfold Ey
  by_cases hlt:b<i
  ·have hw:wrap .i64 (Int.fdiv (wrap .u64 (wrap .i64 ((b:Int)+(i:Int)))) (2 ^ 1))=(((b+i)/2:Nat):Int):=by
    have e1:wrap .i64 ((b:Int)+(i:Int))=((b+i:Nat):Int):=by rw[Aq _ (by omega)];omega
    have e2:wrap .u64 ((b+i:Nat):Int)=((b+i:Nat):Int):=wrap_u64 _ (by omega)
    have e3:Int.fdiv ((b+i:Nat):Int) (2 ^ 1)=(((b+i)/2:Nat):Int):=by
     rw[Ads _ (by decide)];rfl
    rw[e1,e2,e3,Aq _ (by omega)]
   have hm:(b+i)/2<xs.length:=by omega
   rw[T6 hlt,ct,hw,Aa hm,ct,Dh hm,wN,wS (by omega)]
   by_cases G:xs[(b+i)/2]<c
   ·rw[decide_eq_true G,ct]
    refine gq hs hl h1 h0 C ((b+i)/2+1) i (by omega) I (by omega) (fun k Y L=>?_) a2
    by_cases T:k=(b+i)/2
    ·subst T;exact G
    ·exact Int.lt_trans (mono k _ Y hm (by omega)) G
   ·rw[decide_eq_false G,cf]
    refine gq hs hl h1 h0 C b ((b+i)/2) (by omega) (by omega) (by omega) a1 (fun k Y L=>?_)
    by_cases T:k=(b+i)/2
    ·subst T;omega
    ·have:=mono ((b+i)/2) k hm Y (by omega);omega
  ·have hbe:b=i:=by omega
   subst hbe
   rw[Wc (by omega),cf]
   by_cases D:b<xs.length
   ·rw[T6 D,show(true==true)=true from rfl,ct,Aa D,ct,Dh D]
    by_cases G:xs[b]=c
    ·rw[show((xs[b]==c)==false)=false by simp[G],cf];exact h1 b D G
    ·rw[show((xs[b]==c)==false)=true by simp[G],ct,ct,Dh D,Ws]
     unfold Vg
     rw[show(xs[b] != xs[b])=false by simp]
     show r0 (b:Int) false=X
     refine h0 b I a1 fun k Y L=>?_
     have:=a2 b D (zE _)
     by_cases e:k=b
     ·subst e;omega
     ·have:=mono b k D Y (by omega);omega
   ·rw[Wc (by omega),show(false==true)=false from rfl,cf]
    exact h0 b I a1 fun k Y L=>by omega
def xt{xs:List Int}{c:Int}{n:Nat}{f g:Bool}{r0:Int->Bool->O R}(hs:xs.Pairwise (·<·))(D:n=xs.length)(G:xs.length<=30000000)(hN:40000000<=N)(C:∀ p (h:p<xs.length),xs[p]=c->r0 (p:Int) true=X)(I:∀ p:Nat,p<=xs.length->(∀ k (h:k<xs.length),k<p->xs[k]<c)->(∀ k (h:k<xs.length),p<=k->c<xs[k])->r0 (p:Int) false=X):Cz N (Ao xs) n f g c r0=X:=by
 subst D
 rw[H0];unfold Ds
 exact gq hs G C I N 0 xs.length (Abx _) (zE _) (by omega) (fun k _ h=>by omega) (fun k C L=>by omega)
def wO{f:F1}{L:Fv}(c:Cv f L):(Eg L).Pairwise (·<·):=by
 rw[Aag]
 intro i j hi C k
 unfold Eg at *
 rw[Aay,Aay]
 have D:j<L.length:=by simpa using C
 have:=c.lt i (by omega)
 have:=c.mono j (i+1) k D
 omega
def uf{a:Rat}{v:Int}(h:0<v)(k:v<=9223372036854775807):qm (a/(v:Rat))<=qm a+2:=by
 have e:((v:Int):Rat)⁻¹=mkRat 1 v.toNat:=by
  rw[Ac6,Aca,show((v.toNat:Nat):Rat)=((v:Int):Rat)from congrArg (fun z:Int=>(z:Rat)) (show(v.toNat:Int)=v by omega)]
  show _=(1:Rat)*_
  rw[Rat.one_mul]
 rw[Aca,e]
 have C:=Mn a (mkRat 1 v.toNat)
 have k:=rL 1 v.toNat 2 (by decide) (by omega) (by omega)
 omega
def gr{L:Fv}{V:List RatD}{j:Bool}{f:LA->Nat->O R}:D6 1 (Mx L V j) f=f (Ao (Eg L)) L.length:=rfl
def rW{L:Fv}{V:List RatD}{j:Bool}{f:LA->Nat->O R}:D6 3 (drop 1 (Mx L V j)) f=f (V.flatMap RatD.av) L.length:=rfl
def ug{V:List RatD}{j:Nat}(h:j<V.length):take 3 (drop ((Int.toNat (j:Int))*3) (V.flatMap RatD.av))=V[j].av:=by rw[PX h];rfl
def pB{V:List RatD}{j:Nat}(h:j<V.length):ble 3 (drop ((Int.toNat (j:Int))*3) (V.flatMap RatD.av)).length=true:=by rw[PX h];rfl
def mA{K:LA->Bool->O R}{f:F1}{L:Fv}{V:List RatD}{M:Nat}{x:Int}{j c:Bool}(hV:VOk V L)(hP:PB M L)(hc:Cv f L)(h0:(L[0]'(hc.ne)).1<=x)(h1:x<=(L[L.length - 1]'(by have:=hc.ne;omega)).1)(I:fit (100*M+1000) N)(hNN:40000000<=N)
  (h:∀(d:RatD)(o:Bool),d.can (f x)->K d.av o=X):By N (Mx L V j) c x K=X:=by
 have hne:=hc.ne
 have T:=hP.n;have hV1:=hV.1
 have xl:(Eg L).length=L.length:=Aa5 ..
 have xg:∀ i (hi:i<L.length),(Eg L)[i]'(by omega)=L[i].1:=fun i hi=>Aay ..
 rw[Uh];unfold Sm
 rw[gr]
 refine xt (wO hc) xl.symm (by omega) hNN (fun p D Y=>?_) (fun p D a1 a2=>?_)
 ·rw[xl]at D
  rw[xg p D]at Y
  rw[ct,rW,Aa D,ct,pB (by omega),ct,ug (by omega),c3,ct,b3,ct,G_]
  have:=hV.2 p (by omega) D
  rw[<-hc.val p D,Y]at this
  exact h _ _ this
 ·rw[xl]at D
  have hp0:0<p:=by
   refine Nat.pos_of_ne_zero fun e=>?_
   have:=a2 0 (by omega) (by omega);rw[xg 0 hne]at this;omega
  have C:p<L.length:=by
   refine Ac4 fun e=>?_
   have:=a1 (L.length - 1) (by omega) (by omega);rw[xg _ (by omega)]at this;omega
  have q1:=hP.q _ (zQ C);have q0:=hP.q _ (zQ (show p - 1<L.length by omega))
  have b1:=hP.x _ (zQ C);have b0:=hP.x _ (zQ (show p - 1<L.length by omega))
  have l1:=a2 p (by omega) (zE _);have l0:=a1 (p - 1) (by omega) (by omega)
  rw[xg _ (by omega)]at l1 l0
  have w1:wrap .i64 ((p:Int) - 1)=((p - 1:Nat):Int):=dS (k:=1) (by omega) (by omega)
  have wx:wrap .i64 (L[p].1 - L[p - 1].1)=L[p].1 - L[p - 1].1:=Aq _ (by omega)
  have wy:wrap .i64 (x - L[p - 1].1)=x - L[p - 1].1:=Aq _ (by omega)
  have s1:=DI L[p].2 L[p - 1].2
  have t1:=qi (v:=L[p].1 - L[p - 1].1) (by omega)
  have t2:=qi (v:=x - L[p - 1].1) (by omega)
  have G:((L[p].1 - L[p - 1].1:Int):Rat)≠0:=by
   intro e
   have e2:((L[p].1 - L[p - 1].1:Int):Rat)=((0:Int):Rat):=e
   have:=Rat.intCast_inj.1 e2;omega
  have m1:=uf (a:=L[p].2 - L[p - 1].2) (v:=L[p].1 - L[p - 1].1) (by omega) (by omega)
  have m2:=Mn ((L[p].2 - L[p - 1].2)/((L[p].1 - L[p - 1].1:Int):Rat)) ((x - L[p - 1].1:Int):Rat)
  simp only[rW,gr]
  rw[cf,Aa C,ct,pB (by omega),ct,w1,Aa (by omega),ct,pB (by omega),ct,ug (by omega),ug (by omega)]
  refine ZD (hV.2 p (by omega) C) (hV.2 (p - 1) (by omega) (by omega)) (I.le (by omega)) fun a ha=>?_
  rw[c3,ct,b3,ct,ct,Dh (by omega),ct,Dh (by omega),xg _ C,xg _ (by omega),wx]
  refine Dl (by omega) (by have:=I.1;omega) fun b hb=>?_
  rw[G_]
  refine ue ha hb G (I.le (by omega)) fun e he=>?_
  rw[c3,ct,ct,ct,b3,ct,ct,Dh (by omega),xg _ (by omega),wy]
  refine Dl (by omega) (by have:=I.1;omega) fun b' hb'=>?_
  rw[G_]
  refine DJ he hb' (I.le (by omega)) fun g hg=>?_
  refine JD (hV.2 (p - 1) (by omega) (by omega)) hg (I.le (by omega)) fun r hr=>?_
  rw[c3,ct,b3,ct,G_]
  refine h r _ ?_
  have e1:=hc.val p C;have e0:=hc.val (p - 1) (by omega)
  obtain⟨m,q,T⟩:=hc.lin (p - 1) (by omega)
  have ep:p - 1+1=p:=by omega
  simp only[ep]at T
  have k1:=TY l1;have k0:=TY l0
  have f1:=T L[p].1 (by grind) Abj
  have f0:=T L[p - 1].1 Abj (by grind)
  have fx:=T x (by grind) (by grind)
  rw[<-e1,<-e0,f1,f0]at hr
  rw[fx]
  rw[zc]at G
  rw[zc,zc,show m*(L[p].1:Rat)+q - (m*L[p - 1].1+q)=m*(L[p].1 - L[p - 1].1) by grind,show m*((L[p].1:Rat) - L[p - 1].1)/(L[p].1 - L[p - 1].1)=m by rw[Aca,Ae4,Aco _ G,Rat.mul_one]]at hr
  rwa [show m*(L[p - 1].1:Rat)+q+m*(x - L[p - 1].1)=m*x+q by grind]at hr
def si{K:LA->O R}{x y:RatD}{p q:Rat}{m n:Nat}{o o':Bool}(k:x.is p m)(C:y.is q n)(G:fit (8*(m+n)+40) N)(h:∀ d:RatD,d.can (p*q)->K d.av=X):Kc N x.av o y.av o' K=X:=by
 obtain⟨d,D,e⟩:=PV (R:=R) (N:=N) (o:=o) (o':=o') k.1 C.1 (G.le (by have:=k.2.2;have:=C.2.2;omega))
 rw[e];exact h d (by rw[k.2.1,C.2.1]at D;exact D)
def nH{w:Rat}:decide (w.num.sign>0)=decide (0<w):=by
 have:=sd (q:=w)
 rw[decide_eq_decide]at this ⊢
 rw[<-Rat.not_le,<-this];omega
def Ho(a b:Int):Fg a b=E3 a b:=by
 unfold Fg E3
 by_cases h:b<a
 ·rw[decide_eq_true h,if_neg (by omega)];rfl
 ·rw[decide_eq_false h,if_pos (by omega)];rfl
def Zf(a b:Int):Ij a b=Ov a b:=by
 unfold Ij Ov
 by_cases h:b>a
 ·rw[decide_eq_true h,if_pos (by omega)];rfl
 ·rw[decide_eq_false h]
  by_cases k:a<=b
  ·rw[if_pos k];show a=b;omega
  ·rw[if_neg k];rfl
end
end Gx.Uo
namespace Gx.Uo
open Go Go.Proofs
section
variable{R:Type}{N:Nat}{X:O R}
def sj{K:LA->Bool->LA->O R}{x:Int}{d:RatD}{v:Rat}(k:d.can v)(h:K (Ao [x]) false ([d].flatMap RatD.av)=X):Ez N x d.av false K=X:=by
 rw[Pv];unfold J3 Hj
 exact h
def rX{f:F1}{xs:List Int}{k:Nat}(h:k<xs.length):JE f (xs.take (k+1))=W9 (JE f (xs.take k)) xs[k] (f xs[k]):=by unfold JE;rw[zu h,List.foldl_append];rfl
def yU{l:List Int}{r:LA}{j:Nat}(h:j<l.length){f:Int->O R}:Am .i64 (drop (0+((Int.toNat (j:Int))*1)) (Ao l++r)) f=f l[j]:=by
 rw[zU,zG,zY,List.drop_append_of_le_length (by rw[H3];omega)]
 unfold Ao
 rw[<-List.map_drop,DB h];rfl
section
variable{r0:LA->Bool->O R}{F:F1}{M:Nat}{p q:Int}{l a':LA}{a c g:Bool}{b d f h:LA}{i j:Int}
def AT(p q t:Int):Bool:=decide (p<t)&&decide (t<q)
def rY{lo hi:Int}{cs:List Int}:(ER lo hi cs).length<=(hi - lo+1).toNat:=by
 unfold ER
 exact Aal (Aen _ _) (by simp)
end
end
end Gx.Uo
namespace Gx.Uo
open Go Go.Proofs
section
variable{R:Type}{N:Nat}{X:O R}
def sk{p q:Rat}:decide (PU p q>0)=decide (q<p):=by
 rw[decide_eq_decide];unfold PU
 by_cases h:p<q
 ·rw[if_pos h];simp;grind
 ·rw[if_neg h];split
  ·simp;grind
  ·simp;grind
def PZ{K:Int->O R}{L:Fv}{V:List RatD}{M S:Nat}{s:RatD}{sq:Rat}{o o' j:Bool}(hs:s.can sq)(T:qm sq<=S)(hV:VOk V L)(hP:PB M L)(I:fit (200*(M+S)+1000) N):∀(n k C m:Nat)(b:RatD)(bv:Rat)(Y:m<L.length),k+n=L.length->n<C->1<=k->b.can bv->qm bv<=M+S+8 ->
  Fd N K (Ao (Eg L)) L.length o (Mx L V j) o' s.av C (m:Int) (L.length:Int) (k:Int) b.av=K (pk sq (L.drop k) L[m].1 bv)
|0,k,C+1,m,b,bv,Y,hk,_,_,hb,hq=>by
  have hl:=hP.n;have hV1:=hV.1
  have xl:(Eg L).length=L.length:=Aa5 ..
  rw[Fd];unfold Iq
  rw[Wc (by omega),cf,gr,Aa Y,ct,Dh (by omega),GN (by omega),pk]
  exact congrArg K (Aay ..)
| n+1,k,C+1,m,b,bv,Y,hk,hfu,hk1,hb,hq=>by
  have hl:=hP.n;have hV1:=hV.1
  have xl:(Eg L).length=L.length:=Aa5 ..
  have xg:∀ i (hi:i<L.length),(Eg L)[i]'(by omega)=L[i].1:=fun i hi=>Aay ..
  rw[Fd];unfold Iq
  have D:k<L.length:=by omega
  have bx:=hP.x _ (zQ D);have bq:=hP.q _ (zQ D)
  have ix:=qi (v:=L[k].1) (by omega)
  have m1:=Mn sq (L[k].1:Rat)
  have m2:=Vr L[k].2 (sq*(L[k].1:Rat))
  rw[T6 D,ct,Aa D,ct,Dh (by omega),rW,Aa D,ct,pB (by omega),ct,b3,ct,xg _ D]
  refine Dl (by omega) (by have:=I.1;omega) fun a ha=>?_
  rw[G_]
  refine DJ hs ha (I.le (by omega)) fun c hc=>?_
  rw[ug (by omega)]
  refine JD (hV.2 k (by omega) D) hc (I.le (by omega)) fun d hd=>?_
  rw[c3,ct,show(((k:Int)==0)==false)=true by simp;omega,ct,b3,ct,b3,ct,G_,G_,wE (hd.is (m:=M+S+8) (by omega)) (hb.is (m:=M+S+8) (by omega)) (I.le (by omega)),show(cond false true (decide (PU (L[k].2+sq*(L[k].1:Rat)) bv>0)))=decide (bv<L[k].2+sq*(L[k].1:Rat))from sk,DB D,wS (by omega)]
  rw[show ∀(x:Int)(v:Rat)(r:Fv)(b0:Int)(mm:Rat),pk sq ((x,v)::r) b0 mm=if mm<v+sq*x then pk sq r x (v+sq*x)else pk sq r b0 mm from fun _ _ _ _ _=>rfl]
  by_cases G:bv<L[k].2+sq*(L[k].1:Rat)
  ·rw[decide_eq_true G,ct,ct,yQ,ct,if_pos G,wC]
   exact PZ hs T hV hP I n (k+1) C k d _ D (by omega) (by omega) (by omega) hd (by omega)
  ·rw[decide_eq_false G,cf,if_neg G]
   exact PZ hs T hV hP I n (k+1) C m b bv Y (by omega) (by omega) (by omega) hb hq
def mB{K:Int->O R}{L:Fv}{V:List RatD}{M S:Nat}{s:RatD}{sq:Rat}{o o' j:Bool}(C:0<L.length)(hs:s.can sq)(D:qm sq<=S)(hV:VOk V L)(hP:PB M L)(G:fit (200*(M+S)+1000) N)(hNN:40000000<=N):Gg N (Mx L V j) o s.av o' K=K (D7 sq L):=by
 rw[Um];unfold Mc
 have Y:=hP.n;have hV1:=hV.1
 have xl:(Eg L).length=L.length:=Aa5 ..
 obtain⟨n,rfl⟩:∃ k,N=k+1:=⟨N - 1,by omega⟩
 have bx:=hP.x _ (zQ C);have bq:=hP.q _ (zQ C)
 have ix:=qi (v:=L[0].1) (by omega)
 have m1:=Mn sq (L[0].1:Rat)
 have m2:=Vr L[0].2 (sq*(L[0].1:Rat))
 rw[gr]
 show Fe (n+1) K (Ao (Eg L)) L.length o (Mx L V j) o' s.av (n+1) (L.length:Int)=_
 rw[Fe];unfold Mb
 rw[show decide ((0:Int)<(L.length:Int))=true by simp;omega,ct,show Ab 0 L.length=true from Aa (i:=0) C,ct,show ∀ K:Int->O R,Am .i64 (Ao (Eg L)) K=K ((Eg L)[0]'(by omega))from fun K=>wL (j:=0) (by omega),rW,show Ab 0 L.length=true from Aa (i:=0) C,ct,show ble 3 (V.flatMap RatD.av).length=true by rw[AJ,zo];omega,ct,b3,ct,show(Eg L)[0]'(by omega)=L[0].1 from Aay ..]
 refine Dl (by omega) (by omega) fun a I=>?_
 rw[G_]
 refine DJ hs I (G.le (by omega)) fun c hc=>?_
 rw[show take 3 (V.flatMap RatD.av)=(V[0]'(by omega)).av from ug (j:=0) (by omega)]
 refine JD (hV.2 0 (by omega) C) hc (G.le (by omega)) fun d T=>?_
 rw[c3,ct,b3,ct,G_,c3,ct]
 have:=PZ (K:=K) (o:=o) (o':=o') (j:=j) hs D hV hP G (L.length - 1) 1 n 0 d _ C (by omega) (by omega) (by omega) T (by omega)
 have e:D7 sq L=pk sq (L.drop 1) L[0].1 (L[0].2+sq*(L[0].1:Rat)):=by
  match L,C with
  |(x,v)::r,_=>rfl
 rw[e]
 exact this
def cU(u:UnitD):F1:=gp u.min u.segs.l
def gt:∀(l:List SegD)(x:Int)(v:Rat)(L:Fv),(ov l x v L).length<=L.length+l.length
|[],_,_,L=>zE _
|s::r,x,v,L=>by
  rw[ov]
  have:=gt r (x+s.width) (v - s.width*s.price) (W9 L (x+s.width) (v - s.width*s.price))
  have:=MW L (x+s.width) (v - s.width*s.price)
  rw[z8];omega
end
end Gx.Uo
namespace Gx
open Go Go.Proofs
section
variable{R:Type}
def Ho(a b:Int):Fg a b=min a b:=by unfold Fg;by_cases h:b<a<;>simp[h]<;>omega
def Zf(a b:Int):Ij a b=max a b:=by unfold Ij;by_cases h:b>a<;>simp[h]<;>omega
def okR(l:List RatD):Prop:=∀ x∈l,x.is x.q 4
def okR.at{l:List RatD}(h:okR l){i:Nat}(hi:i<l.length):(l[i]).is (l[i]).q 4:=h _ (zQ hi)
def uR(u:UnitD):Prop:=(0<=u.min/\u.min<=1048576)/\(0<=u.max/\u.max<=1048576)/\(0<=u.rampUp/\u.rampUp<=1048576)/\(0<=u.rampDown/\u.rampDown<=1048576)/\(0<=u.reserve/\u.reserve<=1048576)/\(0<=u.startRamp/\u.startRamp<=1048576)/\(0<=u.stopRamp/\u.stopRamp<=1048576)/\(0<=u.noLoad/\u.noLoad<=1048576)/\(0<=u.hotCost/\u.hotCost<=1048576)/\(0<=u.coldCost/\u.coldCost<=1048576)/\(0<=u.reservePrice/\u.reservePrice<=1048576)/\(0<=u.output/\u.output<=1048576)
def Db{u:UnitD}{h:Int}(C:Bc u h=true):IZ u=true/\uR u/\(1<=h/\h<=24):=by
 simp only[Bc,zJ,Gq,decide_eq_true_eq]at C
 obtain⟨h1,G,h3,h4,h5,h6,h7,h8,h9,I,L,T,Y,h14,k,h16⟩:=C
 refine⟨G,?_,by omega⟩
 have ho:0<=u.output/\u.output<=1048576:=by
  unfold qh at k
  cases D:(u.state==2)with
  |true=>rw[D]at k;simp[Gq]at k;omega
  |false=>rw[D]at k;simp at k;omega
 unfold uR;omega
end
end Gx
namespace Gx.Uo
open Go Go.Proofs
section
variable{R:Type}{N:Nat}{X:O R}
def ui{K:LA->O R}{x y:RatD}{p q:Rat}{o o':Bool}(k:x.can p)(C:y.can q)(D:fit (8*(qm p+qm q)+40) N)(h:∀ d:RatD,d.can (if q<=p then p else q)->K d.av=X):gP N x.av o y.av o' K=X:=by
 rw[X_];unfold gO
 rw[b3,ct,b3,ct,G_,G_,GY k.ok C.ok (D.le (by rw[k.m,C.m];omega)),k.q,C.q,u_]
 by_cases hc:q<=p
 ·obtain⟨c,c1,G⟩:=Tg (R:=R) (N:=N) (o:=o) k.ok (D.le (by rw[k.m];omega))
  rw[k.q]at c1
  rw[decide_eq_true hc,ct,ct,G,c3,ct,b3,ct,G_]
  exact h c (by rw[if_pos hc];exact c1)
 ·obtain⟨c,c1,G⟩:=Tg (R:=R) (N:=N) (o:=o') C.ok (D.le (by rw[C.m];omega))
  rw[C.q]at c1
  rw[decide_eq_false hc,cf,ct,G,c3,ct,b3,ct,G_]
  exact h c (by rw[if_neg hc];exact c1)
def un(u:UnitD):Un:=⟨u.min,u.max,u.rampUp,u.rampDown,u.startRamp,u.stopRamp,u.reserve,u.noLoad,u.reservePrice,u.output,u.state==2,cU u,Pd u⟩
def wQ(E:List RatD)(o:Bool):AV:=.imm (E.flatMap RatD.av) E.length 3 false o
def MX(u:UnitD)(hs:Int)(E Q:List RatD)(V:List RatD)(o1 o2:Bool)(r:LA):LA:=u.av++(.int .i64 hs::wQ E o1::wQ Q o2::(Mx (Pd u) V false++r))
section
variable{u:UnitD}{hs:Int}{E Q V:List RatD}{o1 o2:Bool}{r:LA}{f:Int->O R}{g:LA->Nat->O R}
def vQ:Am .i64 ((MX u hs E Q V o1 o2 r).drop 2) f=f u.min:=Az
def yp:Am .i64 ((MX u hs E Q V o1 o2 r).drop 3) f=f u.max:=Az
def yq:Am .i64 ((MX u hs E Q V o1 o2 r).drop 5) f=f u.noLoad:=Az
def xu:Am .i64 ((MX u hs E Q V o1 o2 r).drop 6) f=f u.rampUp:=Az
def yr:Am .i64 ((MX u hs E Q V o1 o2 r).drop 7) f=f u.rampDown:=Az
def xv:Am .i64 ((MX u hs E Q V o1 o2 r).drop 8) f=f u.startRamp:=Az
def uj:Am .i64 ((MX u hs E Q V o1 o2 r).drop 16) f=f u.reserve:=Az
def xw:Am .i64 ((MX u hs E Q V o1 o2 r).drop 17) f=f u.reservePrice:=Az
def xx:Am .i64 ((MX u hs E Q V o1 o2 r).drop 19) f=f u.state:=Az
def xy:Am .i64 ((MX u hs E Q V o1 o2 r).drop 21) f=f u.output:=Az
def xz:D6 3 ((MX u hs E Q V o1 o2 r).drop 23) g=g (E.flatMap RatD.av) E.length:=rfl
def yA:D6 3 ((MX u hs E Q V o1 o2 r).drop 24) g=g (Q.flatMap RatD.av) Q.length:=rfl
def wR:D6 1 ((MX u hs E Q V o1 o2 r).drop 25) g=g (Ao (Eg (Pd u))) (Pd u).length:=rfl
def yu:((MX u hs E Q V o1 o2 r).drop 25).take 2=Mx (Pd u) V false:=rfl
def yv:ble 2 ((MX u hs E Q V o1 o2 r).drop 25).length=true:=rfl
def yw:(MX u hs E Q V o1 o2 r).take 22=u.av:=rfl
def yx:ble 22 (MX u hs E Q V o1 o2 r).length=true:=rfl
structure Pr(E:List RatD)(h:Nat)(a:Rat):Prop where
 lt:h<E.length
 is:E[h].is a 8
def Pr.qm{h:Nat}{a:Rat}(p:Pr E h a):qm a<=9:=p.is.qm
def gu{K:LA->O R}{h:Nat}{b:Rat}{o:Bool}(D:uR u)(p:Pr Q h b)(C:fit 1000 N)(k:∀ d:RatD,d.can (Av (un u) b)->K d.av=X):E1 N (MX u hs E Q V o1 o2 r) o (h:Int) K=X:=by
 have D:=D.2.2.2.2.2.2.2.2.2.2.1
 have hN:=sZ C
 have i0:=qi (v:=0) (by omega);have i1:=qi (v:=u.reservePrice) (by omega)
 have qb:=p.qm
 have s1:=DI b (u.reservePrice:Rat)
 rw[Pw];unfold Nt
 refine Dl (by omega) (by omega) fun z G=>?_
 rw[yA,Aa p.lt,ct,pB p.lt,ct,xw]
 refine Dl (by omega) (by omega) fun i hi=>?_
 rw[ug p.lt]
 refine se p.is (hi.is i1) (C.le (by omega)) fun j I=>?_
 refine ui G I (C.le (by omega)) fun d L=>?_
 rw[c3,ct,b3,ct,G_]
 refine k d ?_
 have:Av (un u) b=if b - (u.reservePrice:Rat)<=((0:Int):Rat)then((0:Int):Rat)else b - (u.reservePrice:Rat):=by
  show mx 0 (b - (u.reservePrice:Rat))=_
  unfold mx
  rw[show((0:Int):Rat)=0 from rfl];grind
 rw[this];exact L
def Ou{b:Rat}(k:uR u)(C:qm b<=9):qm (Av (un u) b)<=12:=by
 have k:=k.2.2.2.2.2.2.2.2.2.2.1
 have i0:=qi (v:=0) (by omega);have i1:=qi (v:=u.reservePrice) (by omega)
 have s1:=DI b (u.reservePrice:Rat)
 have:Av (un u) b=if 0<=b - (u.reservePrice:Rat)then b - (u.reservePrice:Rat)else((0:Int):Rat):=rfl
 rw[this];split<;>omega
def rZ{h:Int}(k:Bc u h=true):Upto (cU u) (Pd u) u.min u.max:=(dR (Jl k).2.1 (Jl k).2.2).1
def r7{h:Int}(k:Bc u h=true){x:Int}(C:u.min<=x/\x<=u.max):qm (cU u x)<=500:=by
 have D:=C9 k
 have hs:=Jl k
 have i1:=qi (v:=x) (by omega);have i2:=qi (v:=u.min) (by omega)
 have s1:=DI (x:Rat) (u.min:Rat)
 have:=kF (A:=5) u.segs.l ((x:Rat) - u.min) (dP k) (by omega) (by omega)
 have G:u.segs.l.length*(5+3*u.segs.l.length+31)<=8*(5+24+31):=Aa4 hs.1 (by omega)
 unfold cU gp
 rw[rM];omega
def gv{hh:Int}(k:Bc u hh=true){a:Rat}(D:qm a<=9){x:Int}(C:u.min<=x/\x<=u.max):qm (own (un u) a x)<=520:=by
 have G:=C9 k
 have I:=(Db k).2.1.2.2.2.2.2.2.2.1
 have i1:=qi (v:=x) (by omega);have i2:=qi (v:=u.noLoad) (by omega)
 have i3:=r7 k C
 have m1:=Mn a (x:Rat)
 have m2:=Vr (a*x) (cU u x)
 have m3:=DI (a*x+cU u x) (u.noLoad:Rat)
 show qm (a*x+cU u x - (u.noLoad:Rat))<=520
 omega
def tZ{K:LA->O R}{h:Nat}{hh x:Int}{a:Rat}{o:Bool}(D:Bc u hh=true)(p:Pr E h a)(hV:VOk V (Pd u))(hP:PB 500 (Pd u))(G:u.min<=x/\x<=u.max)(C:fit 1000000 N)(k:∀ d:RatD,d.can (own (un u) a x)->K d.av=X):Kk N (MX u hs E Q V o1 o2 r) o (h:Int) x K=X:=by
 have hm:=C9 D
 have hn:=(Db D).2.1.2.2.2.2.2.2.2.1
 have hN:100001000<=N:=by have:=C.1;omega
 have i1:=qi (v:=x) (by omega);have i2:=qi (v:=u.noLoad) (by omega)
 have i3:=r7 D G
 have qa:=p.qm
 have m1:=Mn a (x:Rat)
 have m2:=Vr (a*x) (cU u x)
 have up:=rZ D
 rw[Uq];unfold S8
 rw[xz,Aa p.lt,ct,pB p.lt,ct]
 refine Dl (by omega) (by omega) fun i hi=>?_
 rw[ug p.lt]
 refine si p.is (hi.is i1) (C.le (by omega)) fun e T=>?_
 rw[c3,ct,b3,ct,yv,ct,yu]
 refine mA hV hP up.cv (by rw[up.fst];exact G.1) (by rw[up.lst];exact G.2) (C.le (by omega)) (by omega) fun j l Y=>?_
 rw[G_]
 refine JD T Y (C.le (by omega)) fun m I=>?_
 rw[yq]
 refine Dl (by omega) (by omega) fun n L=>?_
 refine ZD I L (C.le (by omega)) fun d hd=>?_
 rw[c3,ct,b3,ct,G_]
 exact k d hd
def r8{K:Bool->O R}{h:Nat}{o:Bool}:Cm N (MX u hs E Q V o1 o2 r) o (h:Int) K=K (Ri (un u) h):=by
 rw[Ld];unfold Jb
 unfold Ri
 by_cases e:h=0
 ·subst e
  rw[show(((0:Nat):Int)==0)=true from rfl,show(true==true)=true from rfl,ct,xx];rfl
 ·rw[show((h:Int)==0)=false by simp;exact e,show(false==true)=false from rfl,cf,show(h==0)=false by simp[e]];rfl
end
end
end Gx.Uo
namespace Gx.Uo
open Go Go.Proofs
noncomputable section
variable{R:Type}{N:Nat}{X:O R}
def uk(N:Nat)(f:Int->(LA->O R)->O R)(r0:LA->Bool->O R)(j:Nat)(l:LA):Nat->Int->Int->Nat->Nat->LA->Bool->LA->O R
|0=>fun _ _ _ _ _ _ _=>none
|n+1=>fun y s v w z x aa=>cond (decide (s<y)) (cond (Ab s j) (Am .i64 (l.drop (0+(s.toNat*1))) fun ad=>f ad fun af=>Dq N ad af false v w z x aa fun ag ah ai aj ak=>uk N f r0 j l n y (wrap .i64 (s+1)) ag ah ai aj ak) none) (r0 [.imm (z.take (v*1)) v 1 false false,.imm (aa.take (w*3)) w 3 false x] (x||false))
def vS(N:Nat)(f:Int->(LA->O R)->O R)(r0:LA->Bool->O R)(j:Nat)(l:LA):Nat->Int->O R
|0=>fun _=>none
|n+1=>fun ab=>cond (decide (0<ab)) (cond (Ab 0 j) (Am .i64 l fun ae=>f ae fun al=>Ez N ae al false fun am an ao=>uk N f r0 j l n ab 1 1 1 am an ao) none) (r0 [.nsl,.nsl] false)
def r9(N:Nat)(f:Int->(LA->O R)->O R)(r0:LA->Bool->O R)(m o:Int)(p:Nat)(i:LA):Nat->Nat->Int->Int->LA->O R
|0=>fun _ _ _ _=>none
|n+1=>fun q t r u=>cond (decide (r<t)) (cond (Ab r p) (Am .i64 (i.drop (0+(r.toNat*1))) fun ac=>cond ((decide (ac>m))==true) (cond (cond true (decide (ac<o)) false) (cond ((ble (q+1) 140737488355328)&&(ble ((q+1)*8) 140737488355328)) (r9 N f r0 m o p i n (q+1) t (wrap .i64 (r+1)) ((u.take (q*1))++[.int .i64 ac])) none) (r9 N f r0 m o p i n q t (wrap .i64 (r+1)) u)) (r9 N f r0 m o p i n q t (wrap .i64 (r+1)) u)) none) (D0 N q u fun ap=>B3 N q ap fun j l=>vS N f r0 j l N (j:Int))
section
variable{r0:LA->Bool->O R}{F:F1}{M:Nat}{p q:Int}{f:Int->(LA->O R)->O R}
def dT{xs:List Int}{Gl:LA}(L:∀ x∈xs,0<=x/\x<=1048576)(Y:xs.length<=20000000)(D:∀ x∈xs,∀ K':LA->O R,(∀ d:RatD,d.can (F x)->K' d.av=X)->f x K'=X)(G:∀ x∈xs,qm (F x)<=M)(T:fit (100*M+1000) N)
  (hX:∀ V,VOk V (JE F xs)->PB M (JE F xs)->r0 (Mx (JE F xs) V false) false=X):∀(m u k:Nat)(V:List RatD),u+m=xs.length->m<k->VOk V (JE F (xs.take u))->PB M (JE F (xs.take u))->(JE F (xs.take u)).length<=u ->
  uk N f r0 xs.length (Ao xs++Gl) k (xs.length:Int) (u:Int) (JE F (xs.take u)).length (JE F (xs.take u)).length (Ao (Eg (JE F (xs.take u)))) false (V.flatMap RatD.av)=X
|0,u,k+1,V,hu,_,hV,hP,hl=>by
  rw[uk];dsimp only
  rw[zF (by omega)]at hV hP ⊢
  rw[Wc (by omega),cf,rT,rU hV]
  exact hX V hV hP
|m+1,u,k+1,V,hu,hfu,hV,hP,hl=>by
  rw[uk];dsimp only
  have C:u<xs.length:=by omega
  have I:=zQ C
  rw[T6 C,ct,Aa C,ct,yU C,wS (by omega)]
  refine D _ I _ fun d' hd=>?_
  have hb:=L _ I
  have hq:=G _ I
  refine tY hV hd hP hq (by omega) T fun V' hV'=>?_
  have e:=rX (f:=F) C
  rw[<-e]at hV' ⊢
  refine dT L Y D G T hX m (u+1) k V' (by omega) (by omega) hV' ?_ ?_
  ·rw[e];exact hP.add hq (by omega) (by omega)
  ·rw[e];have:=MW (JE F (xs.take u)) xs[u] (F xs[u]);omega
def ul{xs:List Int}{Gl:LA}(I:0<xs.length)(T:∀ x∈xs,0<=x/\x<=1048576)(hn:xs.length<=20000000)(C:∀ x∈xs,∀ K':LA->O R,(∀ d:RatD,d.can (F x)->K' d.av=X)->f x K'=X)(D:∀ x∈xs,qm (F x)<=M)(hf:fit (100*M+1000) N)(hNN:40000000<=N)
  (hX:∀ V,VOk V (JE F xs)->PB M (JE F xs)->r0 (Mx (JE F xs) V false) false=X):vS N f r0 xs.length (Ao xs++Gl) N (xs.length:Int)=X:=by
 obtain⟨n,rfl⟩:∃ k,N=k+1:=⟨N - 1,by omega⟩
 rw[vS];dsimp only
 have L:=zQ I
 have hb:=T _ L
 have hq:=D _ L
 rw[show decide ((0:Int)<(xs.length:Int))=true by simp;omega,ct,show Ab 0 xs.length=true from Aa (i:=0) I,ct,show ∀ K:Int->O R,Am .i64 (Ao xs++Gl) K=K xs[0]from fun K=>yU (j:=0) I]
 refine C _ L _ fun d' Y=>sj Y ?_
 have e:JE F (xs.take 1)=[(xs[0],F xs[0])]:=by
  cases xs with
  |nil=>simp at I
  |cons x r=>rfl
 have:=dT (Gl:=Gl) (r0:=r0) T hn C D hf hX (xs.length - 1) 1 n [d'] (by omega) (by omega) (by
  rw[e];refine⟨rfl,fun i h1 h2=>?_⟩
  have:i=0:=by simp at h1;omega
  subst this;exact Y) (by
  rw[e];refine⟨fun z G=>?_,fun z G=>?_,by simp⟩
  ·simp at G;subst G;show -10000000<=xs[0]/\xs[0]<=10000000;omega
  ·simp at G;subst G;exact hq) (by rw[e];simp)
 rw[e]at this
 exact this
def Zg{cs:List Int}(I:cs.length<=10000000):∀(m t k:Nat)(ys:List Int),t+m=cs.length->m<k->ys.length<=t+2 ->
  (r9 N f r0 p q cs.length (Ao cs) k ys.length (cs.length:Int) (t:Int) (Ao ys)=X↔(D0 N (ys++(cs.drop t).filter (AT p q)).length (Ao (ys++(cs.drop t).filter (AT p q))) fun ar=>B3 N (ys++(cs.drop t).filter (AT p q)).length ar fun m o=>vS N f r0 m o N (m:Int))=X)
|0,t,k+1,ys,L,_,_=>by
  rw[r9];dsimp only
  rw[Wc (by omega),cf,GN (by omega),List.filter_nil,Abz]
| m+1,t,k+1,ys,L,T,hl=>by
  rw[r9];dsimp only
  have C:t<cs.length:=by omega
  rw[T6 C,ct,Aa C,ct,tX C,wS (by omega),DB C,Ad7]
  by_cases D:p<cs[t]
  ·rw[show(decide (cs[t]>p)==true)=true by simp[D],ct]
   by_cases G:cs[t]<q
   ·rw[decide_eq_true G,jT,ct,show AT p q cs[t]=true by unfold AT;rw[decide_eq_true D,decide_eq_true G];rfl,if_pos rfl,show(ble (ys.length+1) 140737488355328&&ble ((ys.length+1)*8) 140737488355328)=true by
     rw[show ble (ys.length+1) 140737488355328=true by rw[zo];omega,show ble ((ys.length+1)*8) 140737488355328=true by rw[zo];omega];rfl,ct]
    have e1:(Ao ys).take (ys.length*1)++[.int .i64 cs[t]]=Ao (ys++[cs[t]]):=by
     rw[zF (by rw[H3];omega)];unfold Ao;simp
    have Y:(ys++[cs[t]]).length=ys.length+1:=by simp
    rw[e1,<-Y,show ys++cs[t]::List.filter (AT p q) (drop (t+1) cs)=(ys++[cs[t]])++List.filter (AT p q) (drop (t+1) cs) by simp]
    exact Zg I m (t+1) k (ys++[cs[t]]) (by omega) (by omega) (by omega)
   ·rw[decide_eq_false G,jT,cf,show AT p q cs[t]=false by unfold AT;rw[decide_eq_false G];simp]
    exact Zg I m (t+1) k ys (by omega) (by omega) (by omega)
  ·rw[show(decide (cs[t]>p)==true)=false by simp[D],cf,show AT p q cs[t]=false by unfold AT;rw[decide_eq_false D];rfl]
   exact Zg I m (t+1) k ys (by omega) (by omega) (by omega)
def kK{cs:List Int}(D:p<=q)(hp:0<=p)(hq:q<=1048576)(T:cs.length<=10000000)(G:∀ x,p<=x->x<=q->∀ K':LA->O R,(∀ d:RatD,d.can (F x)->K' d.av=X)->f x K'=X)(L:∀ x:Int,p<=x->x<=q->qm (F x)<=M)(Y:fit (100*M+1000) N)(hNN:40000000<=N)
  (hX:∀ V,VOk V (JE F (ER p q cs))->PB M (JE F (ER p q cs))->r0 (Mx (JE F (ER p q cs)) V false) false=X):r9 N f r0 p q cs.length (Ao cs) N 2 (cs.length:Int) 0 [.int .i64 p,.int .i64 q]=X:=by
 refine(Zg (r0:=r0) (p:=p) (q:=q) (cs:=cs) T cs.length 0 N [p,q] (by omega) (by omega) (by simp)).2 ?_
 rw[zy]
 have fl:∀ t,t∈cs.filter (AT p q)↔t∈cs/\p<t/\t<q:=fun t=>by
  rw[Abb];unfold AT;simp
 have ln:([p,q]++cs.filter (AT p q)).length<=10000002:=by
  have:=Aen (AT p q) cs
  rw[zq];simp;omega
 have l2:2<=([p,q]++cs.filter (AT p q)).length:=by rw[zq];simp
 have mem:∀ t,t∈[p,q]++cs.filter (AT p q)↔t=p\/t=q\/(t∈cs/\p<t/\t<q):=fun t=>by
  rw[zP,fl];simp[or_assoc]
 generalize [p,q]++cs.filter (AT p q)=ys at *
 refine ud (by omega) (by omega) (fun t ht=>?_) ?_
 ·rcases(mem t).1 ht with h|h|h<;>omega
 rw[<-PY (ys:=ys)]
 refine pA (rV ys) (by rw[PY];omega) (by rw[PY];omega) hNN fun P Gl hP hm _=>?_
 have I:=d8 (cs:=cs) D
 have e:P=ER p q cs:=Asc.eq hP I.asc fun t=>by rw[hm t,oz,mem t,I.mem t]
 subst e
 have k:∀ x∈ER p q cs,p<=x/\x<=q:=fun x C=>I.all D C
 exact ul (I.ends D).1 (fun x C=>by have:=k x C;omega) (by have:=rY (lo:=p) (hi:=q) (cs:=cs);omega) (fun x C=>G x (k x C).1 (k x C).2) (fun x C=>L x (k x C).1 (k x C).2) Y hNN hX
end
def wT{r0:LA->Bool->O R}{j:Nat}{i a d g l:LA}{b c f:Bool}{h:Int}:∀ n,I9 N r0 j i a b c d f g h l n=uk N (fun x K=>Br N x a b c d f g h K) r0 j l n
|0=>rfl
|n+1=>by rw[I9,wT n];rfl
def yB{r0:LA->Bool->O R}{j:Nat}{i a d g l:LA}{b c f:Bool}{h:Int}:∀ n,Ja N r0 j i a b c d f g h l n=vS N (fun x K=>Br N x a b c d f g h K) r0 j l n
|0=>rfl
|n+1=>by rw[Ja,wT n];rfl
def wU{r0:LA->Bool->O R}{m o:Int}{p:Nat}{i a d g:LA}{b c f:Bool}{h:Int}:∀ n,Gw N r0 m o p i a b c d f g h n=r9 N (fun x K=>Br N x a b c d f g h K) r0 m o p i n
|0=>rfl
|n+1=>by
  rw[Gw,wU n];unfold O7
  rw[r9];simp only[yB]
def wV{r0:LA->Bool->O R}{g:Nat}{f a d h:LA}{b:Bool}{c:Int}:∀ n,Jd N r0 g f a b c d h n=uk N (fun x K=>B4 N x a b c d K) r0 g h n
|0=>rfl
|n+1=>by rw[Jd,wV n];rfl
def yC{r0:LA->Bool->O R}{g:Nat}{f a d h:LA}{b:Bool}{c:Int}:∀ n,Je N r0 g f a b c d h n=vS N (fun x K=>B4 N x a b c d K) r0 g h n
|0=>rfl
|n+1=>by rw[Je,wV n];rfl
def wW{r0:LA->Bool->O R}{i j:Int}{l:Nat}{f a d:LA}{b:Bool}{c:Int}:∀ n,Gy N r0 i j l f a b c d n=r9 N (fun x K=>B4 N x a b c d K) r0 i j l f n
|0=>rfl
|n+1=>by
  rw[Gy,wW n];unfold O8
  rw[r9];simp only[yC]
end
end Gx.Uo
namespace Gx.Uo
open Go Go.Proofs
section
variable{R:Type}{N:Nat}{X:O R}
def DK:∀ l:List Int,Bs (Ao l)=true
|[]=>rfl
|_::r=>DK r
def r_{L:Fv}{V:List RatD}{j d:Bool}{K:Int->O R}(h:0<L.length):Gv N (Mx L V j) d K=K (fstP L):=by
 rw[S5];unfold O5
 rw[gr,show Ab 0 L.length=true from Aa (i:=0) h,ct]
 have xl:(Eg L).length=L.length:=Aa5 ..
 have:=wL (R:=R) (l:=Eg L) (j:=0) (by omega) (f:=K)
 rw[zy]at this
 rw[this,kT h]
 exact congrArg K (Aay ..)
def ra{L:Fv}{V:List RatD}{j d:Bool}{K:Int->O R}(h:0<L.length)(D:L.length<=30000000):Ig N (Mx L V j) d K=K (lstP L):=by
 rw[Up];unfold S6
 have xl:(Eg L).length=L.length:=Aa5 ..
 have C:wrap .i64 ((L.length:Int) - 1)=((L.length - 1:Nat):Int):=dS (k:=1) h (by omega)
 rw[gr,gr,C,Aa (by omega),ct,Dh (by omega)]
 refine congrArg K ((Aay ..).trans ?_)
 unfold lstP
 rw[Acg,Acf,zD (by omega)];rfl
def mC(L:Fv)(V:List RatD)(j:Bool)(w:RatD)(x y:Int):LA:=Mx L V j++(w.av++[.int .i64 x,.int .i64 y])
section
variable{u:UnitD}{hs:Int}{E Q V:List RatD}{o1 o2:Bool}{r:LA}
def mD{K:LA->Bool->O R}{h:Nat}{b:Rat}{L:Fv}{W:List RatD}{M:Nat}{j o c:Bool}(D:uR u)(p:Pr Q h b)(hL:0<L.length)(hW:VOk W L)(hP:PB M L)(hM:M<=4500)(C:fit 1000000 N)
  (k:∀ w:RatD,w.can (Av (un u) b)->K (mC L W j w (D7 0 L) (D7 (Av (un u) b) L)) (c||false)=X):Bm N (MX u hs E Q V o1 o2 r) o (h:Int) (Mx L W j) c K=X:=by
 have hN:100001000<=N:=by have:=C.1;omega
 have hq:=Ou D p.qm
 rw[Sz];unfold O4
 refine gu D p (C.le (by omega)) fun w G=>?_
 rw[c3,ct,show ble 2 (List.length (Mx L W j))=true from rfl,ct,b3,ct,ct]
 refine Dl (by omega) (by omega) fun z I=>?_
 rw[show take 2 (Mx L W j)=Mx L W j from rfl,G_,mB hL I (S:=12) (Aal (qi (by omega)) (by omega)) hW hP (C.le (by omega)) (by omega),ct,ct,mB hL G hq hW hP (C.le (by omega)) (by omega)]
 exact k w G
def pC(a b c:Int):Ov (Ov a b) c=Ov a (Ov b c):=by unfold Ov;grind
def pD(a b c:Int):E3 (E3 a b) c=E3 a (E3 b c):=by unfold E3;grind
def ZG{K:Int->Int->O R}{x:Int}{w:Rat}{wd:RatD}{L:Fv}{W:List RatD}{M:Nat}{j o d:Bool}(k:uR u)(C:wd.can w)(hq:qm w<=12)(hL:0<L.length)(hP:PB M L)(hx:0<=x/\x<=1048576)(D:fit 1000 N):
  A5 N (MX u hs E Q V o1 o2 r) o (mC L W j wd (D7 0 L) (D7 w L)) d x K=K (TZ (un u) L w x) (JF (un u) L w x):=by
 have v1:=k.2.1;have v2:=k.2.2.1;have v3:=k.2.2.2.1;have v4:=k.2.2.2.2.1
 rw[Oi];unfold Me
 rw[uj,yp,xu]
 have G:∀ f:Int->O R,Am .i64 (drop 5 (mC L W j wd (D7 0 L) (D7 w L))) f=f (D7 0 L):=fun f=>Az
 have I:∀ f:Int->O R,Am .i64 (drop 6 (mC L W j wd (D7 0 L) (D7 w L))) f=f (D7 w L):=fun f=>Az
 rw[G,I,show ble 2 (List.length (mC L W j wd (D7 0 L) (D7 w L)))=true from rfl,ct,show take 2 (mC L W j wd (D7 0 L) (D7 w L))=Mx L W j from rfl,r_ hL,xu,ct,ra hL hP.n,yr,show ble 3 (drop 2 (mC L W j wd (D7 0 L) (D7 w L))).length=true from rfl,ct,show take 3 (drop 2 (mC L W j wd (D7 0 L) (D7 w L)))=wd.av from rfl,Gh C.ok (D.le (by rw[C.m];omega)),C.q,nH,xu]
 have pb:∀ s:Rat,-10000000<=D7 s L/\D7 s L<=10000000:=fun s=>by
  obtain⟨e,T,Y,_⟩:=mJ s hL
  rw[Y];exact hP.x e T
 have fb:-10000000<=fstP L/\fstP L<=10000000:=by rw[kT hL];exact hP.x _ (zQ _)
 have lb:-10000000<=lstP L/\lstP L<=10000000:=by
  unfold lstP
  rw[Acg,Acf,zD (show L.length - 1<L.length by omega)]
  exact hP.x _ (zQ _)
 have p0:=pb 0;have p1:=pb w
 simp only[Ho,Zf]
 rw[Aq (x+u.reserve) (by omega)]
 have t:pP (un u) x=E3 (x+u.reserve) u.max:=rfl
 have tb:-10000000<=pP (un u) x/\pP (un u) x<=10000000:=by rw[t];unfold E3;split<;>omega
 rw[<-t]
 rw[Aq (pP (un u) x - u.rampUp) (by omega),Aq (x - u.rampUp) (by omega),Aq (x+u.rampDown) (by omega),pC,pD]
 have eb:E3 (Ov (E3 (Ov (pP (un u) x - u.rampUp) (D7 0 L)) (D7 w L)) (Ov (fstP L) (x - u.rampUp))) (E3 (lstP L) (x+u.rampDown))=TZ (un u) L w x:=rfl
 rw[eb]
 have bb:-30000000<=TZ (un u) L w x/\TZ (un u) L w x<=30000000:=by
  rw[<-eb];unfold E3 Ov;split<;>split<;>split<;>split<;>split<;>split<;>omega
 rw[Aq (TZ (un u) L w x+u.rampUp) (by omega)]
 have mb:-30000000<=E3 (pP (un u) x) (TZ (un u) L w x+u.rampUp)/\E3 (pP (un u) x) (TZ (un u) L w x+u.rampUp)<=30000000:=by unfold E3;split<;>omega
 rw[Aq _ (by omega)]
 unfold JF
 by_cases h:0<w
 ·rw[decide_eq_true h,ct,if_pos h];rfl
 ·rw[decide_eq_false h,cf,if_neg h]
end
end
end Gx.Uo
namespace Gx.Uo
open Go Go.Proofs
section
variable{R:Type}{N:Nat}{X:O R}
def My{u:UnitD}{h:Int}(k:Bc u h=true):(un u).Ok:=by
 have D:=C9 k
 have hs:=Jl k
 have hR:=(Db k).2.1
 have C:=k
 simp only[Bc,zJ,Gq,decide_eq_true_eq]at C
 refine⟨⟨D.1.1,D.2.2,D.2.1.2⟩,hR.2.2.1,hR.2.2.2.1,hR.2.2.2.2.1,?_,?_,fun G=>?_,rZ k,(dR hs.2.1 hs.2.2).2⟩
 ·show u.min<=u.startRamp/\u.startRamp<=u.max;omega
 ·show u.min<=u.stopRamp/\u.stopRamp<=u.max;omega
 ·have G:u.state=2:=by simpa[un]using G
  have:=C.2.2.2.2.2.2.2.2.2.2.2.2.2.2.1
  unfold qh at this
  rw[G]at this
  have this:u.min<=u.output/\u.output<=u.max:=by simpa[Gq]using this
  exact this
def nI{u:Un}(k:u.Ok){a b:Rat}{f:F1}{L:Fv}{lo hi x:Int}(s:Stage u f L lo hi)(x1:Ov u.min (lo - u.rd)<=x)(x2:x<=E3 u.max (hi+u.ru)):MZ u a b f L x=f (TZ u L (Av u b) x:Int)+Av u b*(JF u L (Av u b) x:Int)+own u a x:=by
 have:=(JG k (a:=a) (b:=b) s x1 x2).2.2
 rw[<-this]
 unfold sC
 by_cases h:0<Av u b
 ·have:=iA h;grind
 ·have e:JF u L (Av u b) x=0:=by unfold JF;rw[if_neg h]
  rw[e]
  have:((0:Int):Rat)=0:=rfl
  grind
section
variable{u:UnitD}{hs:Int}{E Q V:List RatD}{o1 o2:Bool}{r:LA}
def P_{hh:Int}(D:Bc u hh=true){a b:Rat}(G:qm a<=9)(I:qm b<=9){f:F1}{L:Fv}{lo hi x:Int}{B:Nat}(s:Stage (un u) f L lo hi)(hB:∀ y:Int,lo<=y->y<=hi->qm (f y)<=B)(x1:Ov u.min (lo - u.rampDown)<=x)(x2:x<=E3 u.max (hi+u.rampUp)):qm (MZ (un u) a b f L x)<=B+540/\(u.min<=x/\x<=u.max)/\(-10000000<=TZ (un u) L (Av (un u) b) x/\TZ (un u) L (Av (un u) b) x<=10000000)/\(-10000000<=JF (un u) L (Av (un u) b) x/\JF (un u) L (Av (un u) b) x<=10000000):=by
 have k:=My D
 have hm:=C9 D
 have hR:=(Db D).2.1
 have C:=JG k (a:=a) (b:=b) s x1 x2
 have l0:=s.l0;have l2:=s.l2
 have l0:u.min<=lo:=l0
 have l2:hi<=u.max:=l2
 have xr:u.min<=x/\x<=u.max:=by
  have:u.min<=Ov u.min (lo - u.rampDown):=by unfold Ov;split<;>omega
  have:E3 u.max (hi+u.rampUp)<=u.max:=by unfold E3;split<;>omega
  omega
 have r0:=C.2.1.r0;have r1:=C.2.1.r1
 have T:0<=JF (un u) L (Av (un u) b) x:=Aai.1 r0
 have Y:JF (un u) L (Av (un u) b) x<=u.reserve:=Aai.1 r1
 have rv:=hR.2.2.2.2.1
 rw[nI k s x1 x2]
 have q1:=hB _ C.1.1 C.1.2
 have q2:=Ou (Db D).2.1 I
 have q3:=qi (v:=JF (un u) L (Av (un u) b) x) (by omega)
 have q4:=gv D G xr
 have m1:=Mn (Av (un u) b) ((JF (un u) L (Av (un u) b) x:Int):Rat)
 have m2:=Vr (f ((TZ (un u) L (Av (un u) b) x:Int):Rat)) (Av (un u) b*((JF (un u) L (Av (un u) b) x:Int):Rat))
 have m3:=Vr (f ((TZ (un u) L (Av (un u) b) x:Int):Rat)+Av (un u) b*((JF (un u) L (Av (un u) b) x:Int):Rat)) (own (un u) a x)
 exact⟨by omega,xr,by omega,by omega⟩
def wX{K:LA->O R}{h:Nat}{hh x:Int}{a b:Rat}{wd:RatD}{f:F1}{L:Fv}{W:List RatD}{lo hi:Int}{B M:Nat}{j o d Y:Bool}(G:Bc u hh=true)(s:Stage (un u) f L lo hi)(hB:∀ y:Int,lo<=y->y<=hi->qm (f y)<=B)(hBM:B<=4000)(pa:Pr E h a)(pb:Pr Q h b)(T:wd.can (Av (un u) b))(hW:VOk W L)(hP:PB M L)(hM:M<=4500)(hV:VOk V (Pd u))(hPc:PB 500 (Pd u))(x1:Ov u.min (lo - u.rampDown)<=x)(x2:x<=E3 u.max (hi+u.rampUp))(D:fit 1000000 N)
  (k:∀ d:RatD,d.can (MZ (un u) a b f L x)->K d.av=X):Br N x (MX u hs E Q V o1 o2 r) o d (mC L W j wd (D7 0 L) (D7 (Av (un u) b) L)) Y (Mx L W j) (h:Int) K=X:=by
 have ko:=My G
 have hR:=(Db G).2.1
 have hm:=C9 G
 have hN:100001000<=N:=by have:=D.1;omega
 obtain⟨_,xr,cb,cr⟩:=P_ G (a:=a) pa.qm pb.qm s hB x1 x2
 have C:=JG ko (a:=a) (b:=b) s x1 x2
 have q1:=hB _ C.1.1 C.1.2
 have q2:=Ou hR pb.qm
 have q3:=qi (v:=JF (un u) L (Av (un u) b) x) (by omega)
 have q4:=gv G pa.qm xr
 have m1:=Mn (Av (un u) b) ((JF (un u) L (Av (un u) b) x:Int):Rat)
 have m2:=Vr (f ((TZ (un u) L (Av (un u) b) x:Int):Rat)) (Av (un u) b*((JF (un u) L (Av (un u) b) x:Int):Rat))
 rw[Kl];unfold Ik
 rw[show ble 7 (List.length (mC L W j wd (D7 0 L) (D7 (Av (un u) b) L)))=true from rfl,ct,show take 7 (mC L W j wd (D7 0 L) (D7 (Av (un u) b) L))=mC L W j wd (D7 0 L) (D7 (Av (un u) b) L)from rfl,ZG hR T q2 s.up.cv.ne hP (by omega) (D.le (by omega))]
 rw[show ble 2 (List.length (Mx L W j))=true from rfl,ct,show take 2 (Mx L W j)=Mx L W j from rfl]
 refine mA hW hP s.up.cv (by rw[s.up.fst];exact C.1.1) (by rw[s.up.lst];exact C.1.2) (D.le (by omega)) (by omega) fun n o hn=>?_
 rw[show ble 3 (drop 2 (mC L W j wd (D7 0 L) (D7 (Av (un u) b) L))).length=true from rfl,ct]
 refine Dl (by omega) (by omega) fun p hp=>?_
 rw[show take 3 (drop 2 (mC L W j wd (D7 0 L) (D7 (Av (un u) b) L)))=wd.av from rfl]
 refine DJ T hp (D.le (by omega)) fun q hq=>?_
 refine JD hn hq (D.le (by omega)) fun i I=>?_
 rw[c3,ct,b3,ct]
 refine tZ G pa hV hPc xr D fun r' hr=>?_
 rw[G_]
 refine JD I hr (D.le (by omega)) fun j' hj=>?_
 rw[c3,ct,b3,ct,G_]
 exact k j' (by rw[nI ko s x1 x2];exact hj)
def dU{r0:LA->Bool->O R}{L:Fv}{a b h:LA}{c d j:Bool}{f p q:Int}(G:uR u)(hP:∀ e∈L,-10000000<=e.1/\e.1<=10000000)(hn:L.length<=3000000)(D:UnitD)(I:D.rampDown=u.rampDown)(T:D.rampUp=u.rampUp)(e16:D.reserve=u.reserve):∀(m t k:Nat)(ys:List Int),t+m=L.length->m<k->ys.length<=100+3*t ->
  (Cl N r0 (Ao (Eg L)) L.length c a d f b j h k p q ys.length (L.length:Int) (t:Int) D.av (Ao ys)=X ↔
   Oj N p q (ys++(L.drop t).flatMap fun e=>[e.1 - u.rampDown,e.1+u.rampUp,e.1+u.rampUp - u.reserve]).length (Ao (ys++(L.drop t).flatMap fun e=>[e.1 - u.rampDown,e.1+u.rampUp,e.1+u.rampUp - u.reserve])) a d j h c b f (fun z ab=>cond ((beq 0 0)&&((beq z.length 2)&&(beq 2 2))) (cond (ble 2 z.length) (r0 (z.take 2) ab) none) none)=X)
|0,t,k+1,ys,ht,_,_=>by
  rw[Cl];unfold F2
  rw[Wc (by omega),cf,GN (by omega),List.flatMap_nil,Abz]
| m+1,t,k+1,ys,ht,hfu,hl=>by
  have v2:=G.2.2.1;have v3:=G.2.2.2.1;have v4:=G.2.2.2.2.1
  rw[Cl];unfold F2
  have C:t<L.length:=by omega
  have xl:(Eg L).length=L.length:=Aa5 ..
  have bx:=hP _ (zQ C)
  rw[T6 C,ct,Aa C,ct,Dh (by omega),show(Eg L)[t]'(by omega)=L[t].1 from Aay ..,u7,u6,u6,vN,I,T,e16,wS (by omega)]
  rw[show(ble (ys.length+3) 140737488355328&&ble ((ys.length+3)*8) 140737488355328)=true by
   rw[show ble (ys.length+3) 140737488355328=true by rw[zo];omega,show ble ((ys.length+3)*8) 140737488355328=true by rw[zo];omega];rfl,ct]
  rw[Aq (L[t].1 - u.rampDown) (by omega),Aq (L[t].1+u.rampUp) (by omega),Aq (L[t].1+u.rampUp - u.reserve) (by omega),DB C,Aad]
  have e1:(Ao ys).take (ys.length*1)++[.int .i64 (L[t].1 - u.rampDown),.int .i64 (L[t].1+u.rampUp),.int .i64 (L[t].1+u.rampUp - u.reserve)]=Ao (ys++[L[t].1 - u.rampDown,L[t].1+u.rampUp,L[t].1+u.rampUp - u.reserve]):=by
   rw[zF (by rw[H3];omega)];unfold Ao;simp
  have Y:(ys++[L[t].1 - u.rampDown,L[t].1+u.rampUp,L[t].1+u.rampUp - u.reserve]).length=ys.length+3:=by simp
  rw[e1,<-Y,<-Aa9]
  exact dU G hP hn D I T e16 m (t+1) k _ (by omega) (by omega) (by rw[Y];omega)
end
end
end Gx.Uo
namespace Gx.Uo
open Go Go.Proofs
section
variable{R:Type}{N:Nat}{X:O R}{u:UnitD}{hs:Int}{E Q V:List RatD}{o1 o2:Bool}{r:LA}
def Cv.far{f:F1}{L:Fv}(c:Cv f L):∀ i (h:i<L.length),(L[0]'(c.ne)).1+(i:Int)<=L[i].1
|0,_=>by omega
|i+1,h=>by have:=c.far i (by omega);have:=c.lt i h;omega
def Upto.len{f:F1}{L:Fv}{a b:Int}(u:Upto f L a b):(L.length:Int)<=b - a+1:=by
 have k:=u.cv.ne
 have:=u.cv.far (L.length - 1) (by omega)
 rw[u.fst,u.lst]at this;omega
def vT(L:Fv)(V:List RatD)(j:Bool):((beq 0 0)&&((beq (List.length (Mx L V j)) 2)&&(beq 2 2)))=true:=rfl
def vU(L:Fv)(V:List RatD)(j:Bool):ble 2 (List.length (Mx L V j))=true:=rfl
def vV(L:Fv)(V:List RatD)(j:Bool):take 2 (Mx L V j)=Mx L V j:=rfl
def kL{K:LA->Bool->O R}{h:Nat}{hh:Int}{a b:Rat}{f:F1}{L:Fv}{W:List RatD}{lo hi:Int}{B M:Nat}{j o c:Bool}(C:Bc u hh=true)(s:Stage (un u) f L lo hi)(hB:∀ y:Int,lo<=y->y<=hi->qm (f y)<=B)(hBM:B<=4000)(pa:Pr E h a)(pb:Pr Q h b)(hW:VOk W L)(hP:PB M L)(hM:M<=4500)(hV:VOk V (Pd u))(hPc:PB 500 (Pd u))(D:fit 1000000 N)
  (k:∀ W',VOk W' (d6 (un u) a b f L)->PB (B+540) (d6 (un u) a b f L)->K (Mx (d6 (un u) a b f L) W' false) false=X):A6 N (MX u hs E Q V o1 o2 r) o (h:Int) (Mx L W j) c K=X:=by
 have G:fit (100*(B+540)+1000) N:=D.le (show 100*(B+540)+1000<=1000000 by omega)
 have hNN:40000000<=N:=by have:=D.1;omega
 have ko:=My C
 have hR:=(Db C).2.1
 have hm:=C9 C
 have hN:100001000<=N:=by have:=D.1;omega
 have v2:=hR.2.2.1;have v3:=hR.2.2.2.1;have v4:=hR.2.2.2.2.1
 have st:=M_ ko a b s
 have l0:u.min<=lo:=s.l0
 have l1:=s.l1
 have l2:hi<=u.max:=s.l2
 have ef:fstP L=lo:=s.up.fstP
 have T:lstP L=hi:=s.up.lstP
 have hl:L.length<=3000000:=by have:=s.up.len;omega
 have sl:(Pd u).length<=1+u.segs.l.length:=gt _ _ _ _
 have s8:=(Jl C).1
 rw[Ol];unfold Ir
 rw[yx,ct,yw,show((beq 0 0)&&((beq (List.length u.av) 22)&&(beq 22 22)))=true from rfl,ct,vU,ct,vV]
 refine mD hR pb s.up.cv.ne hW hP hM D fun w hw=>?_
 rw[show((beq 0 0)&&((beq (List.length (mC L W j w (D7 0 L) (D7 (Av (un u) b) L))) 7)&&(beq 7 7)))=true from rfl,ct,u2,ct,r_ s.up.cv.ne,u7,u3,ct,ra s.up.cv.ne hP.n,u6,u3,vN,u3,u6,u7,wR,DK,show((!o)||true)=true by cases o<;>rfl,ct]
 rw[show(ble (2+(Pd u).length) 140737488355328&&ble ((2+(Pd u).length)*8) 140737488355328)=true by
  rw[show ble (2+(Pd u).length) 140737488355328=true by rw[zo];omega,show ble ((2+(Pd u).length)*8) 140737488355328=true by rw[zo];omega];rfl,ct,gr,ef,T]
 rw[Aq (lo - u.rampDown) (by omega),Aq (hi+u.rampUp) (by omega),Aq (u.max - u.reserve) (by omega),Aq (u.max - u.rampUp) (by omega),Aq (u.max - u.rampUp - u.rampDown) (by omega),Zf,Ho]
 have e1:([.int .i64 (u.max - u.reserve),.int .i64 (u.max - u.rampUp - u.rampDown)]:LA)++Ao (Eg (Pd u))=Ao ([u.max - u.reserve,u.max - u.rampUp - u.rampDown]++Eg (Pd u)):=by unfold Ao;simp
 have I:2+(Pd u).length=([u.max - u.reserve,u.max - u.rampUp - u.rampDown]++Eg (Pd u)).length:=by unfold Eg;simp;omega
 rw[e1,I]
 refine(dU hR hP.x hl u rfl rfl rfl L.length 0 N ([u.max - u.reserve,u.max - u.rampUp - u.rampDown]++Eg (Pd u)) (by omega) (by omega) (by rw[<-I];omega)).2 ?_
 rw[zy]
 have ec:([u.max - u.reserve,u.max - u.rampUp - u.rampDown]++Eg (Pd u))++L.flatMap (fun e=>[e.1 - u.rampDown,e.1+u.rampUp,e.1+u.rampUp - u.reserve])=Zi (un u) L:=by
  unfold Zi Eg un;simp
 rw[ec]
 have cl:(Zi (un u) L).length<=10000000:=by
  rw[<-ec,zq,<-I]
  have:∀ l:Fv,(l.flatMap fun e=>[e.1 - u.rampDown,e.1+u.rampUp,e.1+u.rampUp - u.reserve]).length=3*l.length:=fun l=>by
   induction l with
   |nil=>rfl
   |cons x r ih=>rw[Aad,zq,ih];show 3+3*r.length=3*(r.length+1);omega
  rw[this];omega
 rw[AB];unfold Qm
 rw[wU]
 have d0:u.min<=Ov u.min (lo - u.rampDown):=by unfold Ov;split<;>omega
 have d1:E3 u.max (hi+u.rampUp)<=u.max:=by unfold E3;split<;>omega
 have d2:Ov u.min (lo - u.rampDown)<=E3 u.max (hi+u.rampUp):=st.l1
 have wz:∀ x:Int,Ov u.min (lo - u.rampDown)<=x->x<=E3 u.max (hi+u.rampUp)->qm (MZ (un u) a b f L x)<=B+540:=fun x x0 x1=>(P_ C pa.qm pb.qm s hB x0 x1).1
 refine kK (F:=MZ (un u) a b f L) (M:=B+540) d2 (by omega) (by omega) cl (fun x x0 x1 K' hK=>wX C s hB hBM pa pb hw hW hP hM hV hPc x0 x1 D hK) wz G hNN fun W' Y h2=>?_
 have eL:JE (MZ (un u) a b f L) (ER (Ov u.min (lo - u.rampDown)) (E3 u.max (hi+u.rampUp)) (Zi (un u) L))=d6 (un u) a b f L:=by
  unfold d6;rw[ef,T];rfl
 rw[eL]at Y h2 ⊢
 rw[vT,ct,vU,ct,vV]
 exact k W' Y h2
def mE{hh:Int}(k:Bc u hh=true){a b:Rat}(C:qm a<=9)(D:qm b<=9){x:Int}(x1:u.min<=x)(x2:x<=u.startRamp):qm (d7 (un u) a b x)<=540/\d7 (un u) a b x=own (un u) a x+Av (un u) b*(E3 u.reserve (u.startRamp - x):Int)/\(-10000000<=E3 u.reserve (u.startRamp - x)/\E3 u.reserve (u.startRamp - x)<=10000000):=by
 have hR:=(Db k).2.1
 have G:=C9 k
 have ko:=My k
 have s1:u.startRamp<=u.max:=ko.sr0.2
 have v4:=hR.2.2.2.2.1
 have ib:-10000000<=E3 u.reserve (u.startRamp - x)/\E3 u.reserve (u.startRamp - x)<=10000000:=by unfold E3;split<;>omega
 have e:d7 (un u) a b x=own (un u) a x+Av (un u) b*(E3 u.reserve (u.startRamp - x):Int):=by
  rw[tn,zc];rfl
 have I:=Ou hR D
 have L:=qi (v:=E3 u.reserve (u.startRamp - x)) (by omega)
 have T:=gv k C (x:=x) (by omega)
 have m1:=Mn (Av (un u) b) ((E3 u.reserve (u.startRamp - x):Int):Rat)
 have m2:=Vr (own (un u) a x) (Av (un u) b*((E3 u.reserve (u.startRamp - x):Int):Rat))
 exact⟨by rw[e];omega,e,ib⟩
def wY{K:LA->O R}{h:Nat}{hh x:Int}{a b:Rat}{wd:RatD}{o:Bool}(C:Bc u hh=true)(pa:Pr E h a)(pb:qm b<=9)(G:wd.can (Av (un u) b))(hV:VOk V (Pd u))(hPc:PB 500 (Pd u))(x1:u.min<=x)(x2:x<=u.startRamp)(D:fit 1000000 N)
  (k:∀ d:RatD,d.can (d7 (un u) a b x)->K d.av=X):B4 N x (MX u hs E Q V o1 o2 r) o (h:Int) wd.av K=X:=by
 have hR:=(Db C).2.1
 have Y:=C9 C
 have hN:100001000<=N:=by have:=D.1;omega
 obtain⟨q0,e,ib⟩:=mE C pa.qm pb x1 x2
 have s1:u.startRamp<=u.max:=(My C).sr0.2
 have q2:=Ou hR pb
 have q3:=qi (v:=E3 u.reserve (u.startRamp - x)) (by omega)
 have q4:=gv C pa.qm (x:=x) (by omega)
 have m1:=Mn (Av (un u) b) ((E3 u.reserve (u.startRamp - x):Int):Rat)
 rw[Le];unfold Jc
 rw[uj,xv,Aq (u.startRamp - x) (by omega),Ho]
 refine tZ C pa hV hPc (by omega) D fun i hi=>?_
 rw[b3,ct]
 refine Dl (by omega) (by omega) fun j I=>?_
 rw[G_]
 refine DJ G I (D.le (by omega)) fun l L=>?_
 refine JD hi L (D.le (by omega)) fun g T=>?_
 rw[c3,ct,b3,ct,G_]
 exact k g (by rw[e];exact T)
def sm{K:LA->Bool->O R}{h:Nat}{hh:Int}{a b:Rat}{o:Bool}(C:Bc u hh=true)(pa:Pr E h a)(pb:Pr Q h b)(hV:VOk V (Pd u))(hPc:PB 500 (Pd u))(D:fit 1000000 N)
  (k:∀ W',VOk W' (nS (un u) a b)->PB 540 (nS (un u) a b)->K (Mx (nS (un u) a b) W' false) false=X):H1 N (MX u hs E Q V o1 o2 r) o (h:Int) K=X:=by
 have ko:=My C
 have hR:=(Db C).2.1
 have hm:=C9 C
 have hN:100001000<=N:=by have:=D.1;omega
 have v4:=hR.2.2.2.2.1
 have T:u.min<=u.startRamp:=ko.sr0.1
 have s1:u.startRamp<=u.max:=ko.sr0.2
 have sl:(Pd u).length<=1+u.segs.l.length:=gt _ _ _ _
 have s8:=(Jl C).1
 rw[Py];unfold Nv
 refine gu hR pb (D.le (by omega)) fun w Y=>?_
 rw[c3,ct,xv,uj,wR,DK,show((!o)||true)=true by cases o<;>rfl,ct]
 rw[show(ble (1+(Pd u).length) 140737488355328&&ble ((1+(Pd u).length)*8) 140737488355328)=true by
  rw[show ble (1+(Pd u).length) 140737488355328=true by rw[zo];omega,show ble ((1+(Pd u).length)*8) 140737488355328=true by rw[zo];omega];rfl,ct,vQ,xv,Aq (u.startRamp - u.reserve) (by omega)]
 have e1:([.int .i64 (u.startRamp - u.reserve)]:LA)++Ao (Eg (Pd u))=Ao ((u.startRamp - u.reserve)::Eg (Pd u)):=by unfold Ao;simp
 have G:1+(Pd u).length=((u.startRamp - u.reserve)::Eg (Pd u)).length:=by unfold Eg;simp;omega
 rw[e1,G,AE];unfold Qn
 rw[wW]
 refine kK (F:=d7 (un u) a b) (M:=540) T (by omega) (by omega) (by rw[<-G];omega) (fun x x0 x1 K' hK=>wY C pa pb.qm Y hV hPc x0 x1 D hK) (fun x x0 x1=>(mE C pa.qm pb.qm x0 x1).1) (D.le (by omega)) (by omega) fun W' I L=>?_
 have eL:JE (d7 (un u) a b) (ER u.min u.startRamp ((u.startRamp - u.reserve)::Eg (Pd u)))=nS (un u) a b:=rfl
 rw[eL]at I L ⊢
 rw[vT,ct,vU,ct,vV]
 exact k W' I L
def kM{K:LA->O R}{o:Bool}(hN:4<=N)(D:uR u)(k:∀ W',VOk W' (oL (un u))->PB 2 (oL (un u))->K (Mx (oL (un u)) W' false)=X):D1 N (MX u hs E Q V o1 o2 r) o K=X:=by
 have v:=D.2.2.2.2.2.2.2.2.2.2.2
 rw[Om];unfold Mf
 rw[xy]
 refine Dl (by omega) hN fun c hc=>?_
 rw[show((beq (List.length c.av) 3)&&(ble 3 3))=true from rfl,ct]
 refine k [c] ⟨rfl,fun i G I=>?_⟩ ⟨fun p C=>?_,fun p C=>?_,by simp[oL]⟩
 ·have:i=0:=by simp at G;omega
  subst this;exact hc
 ·simp only[oL,Abm]at C;subst C;show -10000000<=u.output/\u.output<=10000000;omega
 ·simp only[oL,Abm]at C;subst C;exact qi (v:=0) (by omega)
end
end Gx.Uo
namespace Gx.Uo
open Go Go.Proofs
noncomputable section
variable{R:Type}{N:Nat}{X:O R}
abbrev KN(R:Type):=Nat->Nat->Nat->Nat->Nat->Nat->Nat->LA->LA->LA->LA->LA->LA->LA->Option R
abbrev KR(R:Type):=Nat->KN R
def pE(k:KN R)(n:Nat->Nat)(c:Nat->LA):O R:=k (n 0) (n 1) (n 2) (n 3) (n 4) (n 5) (n 6) (c 0) (c 1) (c 2) (c 3) (c 4) (c 5) (c 6)
def yD(r0 r1 r2 r3 r4 r5 r6:KR R)(j:Nat)(n:Nat->Nat)(c:Nat->LA):O R:=match j with
|0=>r0 (n 0) (n 0) (n 1) (n 2) (n 3) (n 4) (n 5) (n 6) (c 0) (c 1) (c 2) (c 3) (c 4) (c 5) (c 6)
|1=>r1 (n 1) (n 0) (n 1) (n 2) (n 3) (n 4) (n 5) (n 6) (c 1) (c 0) (c 2) (c 3) (c 4) (c 5) (c 6)
|2=>r2 (n 2) (n 0) (n 1) (n 2) (n 3) (n 4) (n 5) (n 6) (c 2) (c 0) (c 1) (c 3) (c 4) (c 5) (c 6)
|3=>r3 (n 3) (n 0) (n 1) (n 2) (n 3) (n 4) (n 5) (n 6) (c 3) (c 0) (c 1) (c 2) (c 4) (c 5) (c 6)
|4=>r4 (n 4) (n 0) (n 1) (n 2) (n 3) (n 4) (n 5) (n 6) (c 4) (c 0) (c 1) (c 2) (c 3) (c 5) (c 6)
|5=>r5 (n 5) (n 0) (n 1) (n 2) (n 3) (n 4) (n 5) (n 6) (c 5) (c 0) (c 1) (c 2) (c 3) (c 4) (c 6)
|_=>r6 (n 6) (n 0) (n 1) (n 2) (n 3) (n 4) (n 5) (n 6) (c 6) (c 0) (c 1) (c 2) (c 3) (c 4) (c 5)
def up{α:Type}(f:Nat->α)(j:Nat)(v:α)(i:Nat):α:=cond (beq i j) v (f i)
def Ku{α:Type}{f:Nat->α}{j:Nat}{v:α}:up f j v j=v:=by unfold up;rw[Nat.beq_refl];rfl
def t6{α:Type}{f:Nat->α}{j:Nat}{v w:α}:up (up f j v) j w=up f j w:=by funext i;unfold up;cases beq i j<;>rfl
abbrev Rn:=List (Fv×List RatD)
def rc(l:Rn):LA:=l.flatMap fun p=>Mx p.1 p.2 false
def um(l:Rn):(rc l).length=l.length*2:=by
 induction l with
|nil=>rfl
|cons x r k=>unfold rc at *;rw[Aad,zq,k,z8];show 2+_=_;omega
def sp(l:Rn):(rc l).take (l.length*2)=rc l:=zF (by rw[um];omega)
def kN:∀(l:Rn)(i:Nat)(h:i<l.length),(rc l).drop (i*2)=Mx l[i].1 l[i].2 false++rc (l.drop (i+1))
|x::r,0,_=>rfl
|x::r,i+1,h=>by
  have:=kN r i (by simpa using h)
  rw[show(i+1)*2=i*2+2 by omega]
  show(Mx x.1 x.2 false++rc r).drop (i*2+2)=_
  rw[show(Mx x.1 x.2 false++rc r).drop (i*2+2)=(rc r).drop (i*2)from rfl,this];rfl
def su(l:Rn)(p:Fv×List RatD):rc (l++[p])=rc l++Mx p.1 p.2 false:=by unfold rc;simp
def fz(s:RB)(n:Nat->Nat)(c:Nat->LA):LA:=HM s ((c 0).take (n 0*2)) (n 0) ((c 1).take (n 1*2)) (n 1) ((c 2).take (n 2*2)) (n 2) ((c 3).take (n 3*2)) (n 3) ((c 4).take (n 4*2)) (n 4) ((c 5).take (n 5*2)) (n 5) ((c 6).take (n 6*2)) (n 6)
section
variable{r0 r1 r2 r3 r4 r5 r6:KR R}{last:Int}{s:RB}
def wZ{k:Int->Int->KN R}{j:Nat}(C:j<6){ba:Int}{n:Nat->Nat}{c:Nat->LA}{v:LA}:E5 N k r0 r1 r2 r3 r4 r5 r6 last s (j:Int) ba (n 0) (n 1) (n 2) (n 3) (n 4) (n 5) (n 6) v (c 0) (c 1) (c 2) (c 3) (c 4) (c 5) (c 6) =
  cond (ble 2 v.length) (cond ((beq (v.take 2).length 2)&&ble 2 2) (cond (ble (n j+1) 140737488355328&&ble ((n j+1)*48) 140737488355328) (pE (k (j:Int) (wrap .i64 (ba+1))) (up n j (n j+1)) (up c j ((c j).take (n j*2)++(setCells [.nsl,.nsl] 0 (v.take 2)).take 2))) none) none) none:=by
 have:j=0\/j=1\/j=2\/j=3\/j=4\/j=5:=by omega
 rcases this with rfl|rfl|rfl|rfl|rfl|rfl<;>rfl
def Q2(N:Nat)(r0 r1 r2 r3 r4 r5 r6:KR R)(last:Int)(s:RB)(fuel:Nat)(n:Nat->Nat)(c:Nat->LA)(j:Int)(a:Int)(v:LA):O R:=E5 N (B5 N r0 r1 r2 r3 r4 r5 r6 last s fuel) r0 r1 r2 r3 r4 r5 r6 last s j a (n 0) (n 1) (n 2) (n 3) (n 4) (n 5) (n 6) v (c 0) (c 1) (c 2) (c 3) (c 4) (c 5) (c 6)
def w5{j k:Nat}(C:j<6){a:Int}{n:Nat->Nat}{c:Nat->LA}:pE (B5 N r0 r1 r2 r3 r4 r5 r6 last s (k+1) (j:Int) a) n c =
  cond (decide (a<=last)) (cond (decide (a>(j:Int))) (cond (Ab (wrap .i64 ((wrap .i64 (a - (j:Int))) - 1)) (n j)) (cond (ble 2 (((c j).drop (0+(((wrap .i64 ((wrap .i64 (a - (j:Int))) - 1)).toNat)*2))).length)) (A6 N (fz s n c) true a (((c j).drop (0+(((wrap .i64 ((wrap .i64 (a - (j:Int))) - 1)).toNat)*2))).take 2) false fun bk bt=>cond (bt||false) none (cond ((beq 0 0)&&((beq bk.length 2)&&(beq 2 2))) (Q2 N r0 r1 r2 r3 r4 r5 r6 last s k n c (j:Int) a bk) none)) none) none)
   (Cm N (fz s n c) true (j:Int) fun cd=>cond cd (D1 N (fz s n c) true fun ce=>A6 N (fz s n c) true a ce false fun br cf=>cond (cf||false) none (cond ((beq 0 0)&&((beq br.length 2)&&(beq 2 2))) (Q2 N r0 r1 r2 r3 r4 r5 r6 last s k n c (j:Int) a br) none)) (H1 N (fz s n c) true a fun bs cg=>cond (cg||false) none (cond ((beq 0 0)&&((beq bs.length 2)&&(beq 2 2))) (Q2 N r0 r1 r2 r3 r4 r5 r6 last s k n c (j:Int) a bs) none))))
   (yD r0 r1 r2 r3 r4 r5 r6 j n c):=by
 have:j=0\/j=1\/j=2\/j=3\/j=4\/j=5:=by omega
 rcases this with rfl|rfl|rfl|rfl|rfl|rfl<;>rfl
def rB(u:UnitD)(hs:Int)(E Q V:List RatD)(o o1 o2:Bool)(n:Nat->Nat)(c:Nat->LA):RB:={nm:=u.name,bu:=u.bus,mi:=u.min,ma:=u.max,sc:=u.segs.l.flatMap SegD.av,sn:=u.segs.l.length,st:=false,so:=o,nl:=u.noLoad,ru:=u.rampUp,rd:=u.rampDown,sr:=u.startRamp,tr:=u.stopRamp,ut:=u.upTime,dt:=u.downTime,sT:=u.startTime,hc:=u.hotCost,cc:=u.coldCost,hh:=u.hotHours,rs:=u.reserve,rp:=u.reservePrice,ac:=u.away.l.flatMap qe,an:=u.away.l.length,aq:=false,ao:=o,us:=u.state,uh:=u.hours,uo:=u.output,hs:=hs,ec:=E.flatMap RatD.av,en:=E.length,et:=false,eo:=o1,qc:=Q.flatMap RatD.av,qn:=Q.length,qt:=false,qo:=o2,pc:=Ao (Eg (Pd u)),pn:=(Pd u).length,pt:=false,po:=false,vc:=V.flatMap RatD.av,vn:=(Pd u).length,vt:=false,vo:=false,na:=n 0,nb:=n 1,nc:=n 2,nd:=n 3,ne:=n 4,nf:=n 5,ng:=n 6,ka:=c 0,kb:=c 1,kc:=c 2,kd:=c 3,ke:=c 4,kf:=c 5,kg:=c 6}
def uN(u:UnitD)(o:Bool):UnitD:={u with segs:=.of u.segs.l false o,away:=.of u.away.l false o}
def rf{u:UnitD}{hs:Int}{E Q V:List RatD}{o o1 o2:Bool}{n n':Nat->Nat}{c c':Nat->LA}:∃ r,fz (rB u hs E Q V o o1 o2 n c) n' c'=MX (uN u o) hs E Q V o1 o2 r:=⟨_,rfl⟩
def RI(u:UnitD)(a b:Nat->Rat)(j:Nat)(l:Rn):Prop:=∀ i (h:i<l.length),VOk l[i].2 l[i].1/\PB (540*(i+1)+2) l[i].1/\l[i].1=(runF (un u) a b j i).2
def gw{u:UnitD}{hh:Int}(k:Bc u hh=true){a b:Nat->Rat}{j:Nat}{H:Nat}(C:∀ h,h<H->qm (a h)<=9)(D:∀ h,h<H->qm (b h)<=9):∀ i,j+i<H->∀ y:Int,Bz (un u) j i<=y->y<=Dn (un u) j i->qm ((runF (un u) a b j i).1 y)<=540*(i+1)+2
| 0,hi,y,y1,y2=>by
  unfold runF;unfold Bz at y1;unfold Dn at y2
  cases hc:Ri (un u) j with
  |true =>
   rw[hc]at y1 y2
   have:=(P_ k (C j (by omega)) (D j (by omega)) (B:=2) (T_ (My k) (mL hc)) (fun z _ _=>qi (v:=0) (by omega)) y1 y2).1
   simp only[if_true];omega
  |false =>
   rw[hc]at y1 y2
   have:=(mE k (C j (by omega)) (D j (by omega)) y1 y2).1
   simp only[Aa0,if_false];omega
|i+1,hi,y,y1,y2=>by
  have:=(P_ k (C (j+i+1) (by omega)) (D (j+i+1) (by omega)) (B:=540*(i+1)+2) (Eh (a:=a) (b:=b) (fi:=j) (My k) i) (fun z z1 z2=>gw k C D i (by omega) z z1 z2) y1 y2).1
  unfold runF;omega
end
end
end Gx.Uo
namespace Gx.Uo
open Go Go.Proofs
noncomputable section
variable{R:Type}{N:Nat}{X:O R}
structure DOk(u:UnitD)(hh:Int)(H:Nat)(E Q V:List RatD)(a b:Nat->Rat):Prop where
 hv:Bc u hh=true
 h6:H<=6
 pa:∀ h,h<H->Pr E h (a h)
 pb:∀ h,h<H->Pr Q h (b h)
 hV:VOk V (Pd u)
 hP:PB 500 (Pd u)
section
variable{r0 r1 r2 r3 r4 r5 r6:KR R}{u:UnitD}{hh hs:Int}{H:Nat}{E Q V:List RatD}{a b:Nat->Rat}{o o1 o2:Bool}{n0:Nat->Nat}{c0:Nat->LA}
def RI.snoc{j:Nat}{l:Rn}{L:Fv}{W:List RatD}(h:RI u a b j l)(k:VOk W L)(C:PB (540*(l.length+1)+2) L)(D:L=(runF (un u) a b j l.length).2):RI u a b j (l++[(L,W)]):=fun i hi=>by
 by_cases e:i<l.length
 ·rw[za e];exact h i e
 ·have:i=l.length:=by simp at hi;omega
  subst this
  rw[Aa2 (by omega)]
  simp only[Adp,Acv]
  exact⟨k,C,D⟩
def SK(D:DOk u hh H E Q V a b)(Y:fit 1000000 N){j last:Nat}(hj:j<6)(hl:last<H)(n:Nat->Nat)(c:Nat->LA)
  (k:∀ l',RI u a b j l'->last<j+l'.length->l'.length<=7->yD r0 r1 r2 r3 r4 r5 r6 j (up n j l'.length) (up c j (rc l'))=X):∀(m C:Nat)(l:Rn),RI u a b j l->l.length<=7->last+1<=m+(j+l.length)->m<C ->
  pE (B5 N r0 r1 r2 r3 r4 r5 r6 (last:Int) (rB u hs E Q V o o1 o2 n0 c0) C (j:Int) ((j+l.length:Nat):Int)) (up n j l.length) (up c j (rc l))=X
| m,C+1,l,hr,h7,hm,hfu=>by
  have h6:=D.h6
  rw[w5 hj]
  by_cases hd:j+l.length<=last
  ·obtain⟨r,er⟩:=rf (u:=u) (hs:=hs) (E:=E) (Q:=Q) (V:=V) (o:=o) (o1:=o1) (o2:=o2) (n:=n0) (n':=up n j l.length) (c:=c0) (c':=up c j (rc l))
   have hv:Bc (uN u o) hh=true:=D.hv
   have ko:=My D.hv
   have key:∀(L:Fv)(W:List RatD),VOk W L->PB (540*(l.length+1)+2) L->L=(runF (un u) a b j l.length).2->Q2 N r0 r1 r2 r3 r4 r5 r6 (last:Int) (rB u hs E Q V o o1 o2 n0 c0) C (up n j l.length) (up c j (rc l)) (j:Int) ((j+l.length:Nat):Int) (Mx L W false)=X:=fun L W I G g3=>by
    unfold Q2
    rw[wZ hj,Ku,Ku,t6,t6,vU,ct,vV,show((beq (List.length (Mx L W false)) 2)&&ble 2 2)=true from rfl,ct,show(ble (l.length+1) 140737488355328&&ble ((l.length+1)*48) 140737488355328)=true by
     rw[show ble (l.length+1) 140737488355328=true by rw[zo];omega,show ble ((l.length+1)*48) 140737488355328=true by rw[zo];omega];rfl,ct,sp,show take 2 (setCells [.nsl,.nsl] 0 (Mx L W false))=Mx L W false from rfl,<-su l (L,W)]
    cases m with
    |zero=>omega
    |succ m =>
     have:=SK D Y hj hl n c k m C (l++[(L,W)]) (hr.snoc I G g3) (by simp;omega) (by simp;omega) (by omega)
     rw[zq,List.length_singleton]at this
     rw[wS (by omega)]
     rw[show j+l.length+1=j+(l.length+1) by omega]
     exact this
   rw[decide_eq_true (show((j+l.length:Nat):Int)<=(last:Int) by omega),ct,er,Ku,Ku]
   have hH:j+l.length<H:=by omega
   by_cases hz:l.length=0
   ·rw[decide_eq_false (show ¬ (((j+l.length:Nat):Int)>(j:Int)) by omega),cf,r8]
    have e0:un (uN u o)=un u:=rfl
    rw[e0]
    have ej:j+l.length=j:=by omega
    cases hc:Ri (un u) j with
    |true =>
     rw[ct]
     refine kM (by have:=Y.1;omega) (Db hv).2.1 fun W' w1 w2=>?_
     refine kL hv (T_ ko (mL hc)) (B:=2) (fun z _ _=>qi (v:=0) (by omega)) (by omega) (D.pa _ hH) (D.pb _ hH) w1 w2 (by omega) D.hV D.hP Y fun W2 I G=>?_
     rw[show(false||false)=false from rfl,cf,vT,ct]
     refine key _ _ I ?_ ?_
     ·rw[show 540*(l.length+1)+2=2+540 by omega];exact G
     ·rw[hz];unfold runF;rw[hc];simp only[if_true,zg];rfl
    |false =>
     rw[cf]
     refine sm hv (D.pa _ hH) (D.pb _ hH) D.hV D.hP Y fun W2 I G=>?_
     rw[show(false||false)=false from rfl,cf,vT,ct]
     refine key _ _ I ?_ ?_
     ·exact⟨G.x,fun p hp=>by have:=G.q p hp;omega,G.n⟩
     ·rw[hz];unfold runF;rw[hc];simp only[Aa0,if_false,zg];rfl
   ·obtain⟨i,hi⟩:∃ i,l.length=i+1:=⟨l.length - 1,by omega⟩
    have e1:wrap .i64 ((wrap .i64 (((j+l.length:Nat):Int) - (j:Int))) - 1)=(i:Int):=by
     rw[Aq (((j+l.length:Nat):Int) - (j:Int)) (by omega),Aq _ (by omega)];omega
    have T:i<l.length:=by omega
    rw[decide_eq_true (show((j+l.length:Nat):Int)>(j:Int) by omega),ct,e1,Aa T,ct,zU,zG,kN l i T]
    obtain⟨w1,w2,w3⟩:=hr i T
    rw[show ble 2 (List.length (Mx l[i].1 l[i].2 false++rc (l.drop (i+1))))=true from rfl,ct,show take 2 (Mx l[i].1 l[i].2 false++rc (l.drop (i+1)))=Mx l[i].1 l[i].2 false from rfl]
    have st:=Eh (a:=a) (b:=b) (fi:=j) ko i
    rw[<-w3]at st
    refine kL hv st (B:=540*(i+1)+2) (fun z z1 z2=>gw D.hv (H:=H) (fun h hh=>(D.pa h hh).qm) (fun h hh=>(D.pb h hh).qm) i (by omega) z z1 z2) (by omega) (D.pa _ hH) (D.pb _ hH) w1 w2 (by omega) D.hV D.hP Y fun W2 I G=>?_
    rw[show(false||false)=false from rfl,cf,vT,ct]
    refine key _ _ I ?_ ?_
    ·rw[show 540*(l.length+1)+2=540*(i+1)+2+540 by omega];exact G
    ·rw[w3,hi];rfl
  ·rw[decide_eq_false (show ¬ ((j+l.length:Nat):Int)<=(last:Int) by omega),cf]
   exact k l hr (by omega) h7
end
end
end Gx.Uo
