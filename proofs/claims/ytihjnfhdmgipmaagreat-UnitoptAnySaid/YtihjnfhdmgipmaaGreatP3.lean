/- A part of the proof; each theorem says what it holds. -/
import Derived.Shelf.Sort.Plain
import Derived.Laws.BitsLemmas
import Derived.Test.YtihjnfhdmgipmaaGreatP2
set_option linter.unusedVariables false
set_option linter.defProp false
set_option linter.unusedSimpArgs false
open Nat (ble beq)
open List (take drop replicate)
open Go.IntKind (wrap)
namespace Gx
open Go Go.Proofs
section
variable{R:Type}
def tT{N:Nat}:∀(k D n v:Nat),v<2 ^ k->k<D->n+k<=1000000000000->∃ b:Nat,b<=k/\v<2 ^ b/\(v≠0->2 ^ b<=2*v)/\(v=0->b=0)/\∀ K:Int->O R,Jw N K D (n:Int) (v:Int)=K ((n+b:Nat):Int)
|0,D+1,n,v,I,_,_=>by
  have G:v=0:=by simpa using I
  subst G
  refine⟨0,by omega,by simp,fun h=>absurd rfl h,fun _=>rfl,fun K=>?_⟩
  rw[Jw];unfold Rj
  rw[show decide (((0:Nat):Int)>0)=false by rfl,cf];rfl
| k+1,D+1,n,v,I,hf,hn=>by
  by_cases G:v=0
  ·subst G
   refine⟨0,by omega,by simp,fun h=>absurd rfl h,fun _=>rfl,fun K=>?_⟩
   rw[Jw];unfold Rj
   rw[show decide (((0:Nat):Int)>0)=false by rfl,cf];rfl
  ·obtain⟨b,b1,b2,b3,T,Y⟩:=tT (N:=N) k D (n+1) (v/2) (by rw[A25]at I;omega) (by omega) (by omega)
   refine⟨b+1,by omega,by rw[A25];omega,fun _=>?_,fun h=>absurd h G,fun K=>?_⟩
   ·by_cases L:v/2=0
    ·rw[T L];simp;omega
    ·have:=b3 L;rw[A25];omega
   ·rw[Jw];unfold Rj
    rw[show decide ((v:Int)>0)=true by rw[decide_eq_true_eq];omega,ct,wS (by omega),Q5 v 1,show v/2 ^ 1=v/2 by rfl,Y]
    congr 2;omega
def Aik{N:Nat}{a:List Nat}{n:Nat}{t o:Bool}(Y:n=a.length)(L:Af a)(I:fit a.length N):∃ nb:Nat,nb<=32*a.length/\val a<2 ^ nb/\(val a≠0->2 ^ nb<=2*val a)/\(val a=0->nb=0)/\∀ K:Int->O R,RD N (Ad a) n t o K=K (nb:Int):=by
 have h1:=I.1;have h2:=I.2
 have la:=(Bm L).2
 by_cases G:val a=0
 ·refine⟨0,by omega,by rw[G];simp,fun h=>absurd G h,fun _=>rfl,fun K=>?_⟩
  rw[JY];unfold HG
  rw[Dm Y L I,G,D6];rfl
 ·have hl:(Ak (val a)).length≠0:=fun h=>G (Br.1 h)
  obtain⟨k,T⟩:∃ k,(Ak (val a)).length=k+1:=⟨(Ak (val a)).length - 1,by omega⟩
  have top:=A3 (Ac (val a)) (show k<(Ak (val a)).length by omega)
  have D:(Ak (val a))[k]'(by omega)≠0:=by
   have:=rM (val a) (YV G)
   rw[A59]at this
   simp only[T,A62]at this
   exact this
  have tf:=HP T
  have tl:=LB (Ac (val a)) T
  rw[Ae]at tf tl
  obtain⟨b,b1,b2,b3,b4,b5⟩:=tT (R:=R) (N:=N) 32 N (32*k) ((Ak (val a))[k]'(by omega)) (by exact top) (by omega) (by omega)
  have hp:(2:Nat) ^ (32*k+b)=4294967296 ^ k*2 ^ b:=by rw[A32,A96]
  refine⟨32*k+b,by omega,?_,fun _=>?_,fun h=>absurd h G,fun K=>?_⟩
  ·rw[hp]
   have:((Ak (val a))[k]'(by omega)+1)*4294967296 ^ k<=2 ^ b*4294967296 ^ k:=A2x _ b2
   rw[A2w (2 ^ b)]at this;omega
  ·rw[hp]
   have:=A3f (4294967296 ^ k) (b3 D)
   rw[A45]at this
   omega
  ·rw[JY];unfold HG
   have w1:wrap .i64 ((((Ak (val a)).length:Nat):Int) - 1)=(k:Int):=by rw[i64 (by omega)];omega
   have w2:wrap .i64 ((32:Int)*(k:Int))=((32*k:Nat):Int):=by rw[i64 (by omega)];omega
   rw[Dm Y L I,vr hl,cf,w1,Aa (by omega),ct,c_ (by omega),w2]
   exact b5 K
def Ae1{a:List Nat}{j:Nat}(h:j<a.length):val a=val (a.take j)+4294967296 ^ j*(a[j]+4294967296*val (a.drop (j+1))):=by
 have:=Pu (a.take j) (a.drop j)
 rw[A5i,A3b,A3h (by omega),RX h]at this
 exact this
def j_(j k:Nat):(2:Nat) ^ (32*j+k)=4294967296 ^ j*2 ^ k:=by rw[A32,A96]
def Ath{a:List Nat}{j k:Nat}(D:Af a)(h:j<a.length)(L:k<32):val a/2 ^ (32*j+k)%2=a[j]/2 ^ k%2:=by
 have tl:=Bi (Co D j)
 rw[A3b,A3h (by omega)]at tl
 have hP:0<4294967296 ^ j:=A4l (by omega)
 have G:0<2 ^ k:=A4l (by omega)
 rw[j_,<-A7b,Ae1 h,A5m _ _ hP,A4a tl,A22]
 have e:4294967296=2 ^ k*(2*2 ^ (31 - k)):=by rw[<-Nat.pow_succ',<-A32,show k+(31 - k+1)=32 by omega]
 have I:4294967296*val (a.drop (j+1))=2 ^ k*(2*(2 ^ (31 - k)*val (a.drop (j+1)))):=by
  rw[<-A20 2,<-A20,<-e]
 rw[I,A5m _ _ G,A8e]
def Anm{N:Nat}{a:List Nat}{n:Nat}{t o:Bool}{i:Nat}{K:Int->O R}(L:n=a.length)(I:Af a)(hi:i<32*a.length)(hs:a.length<=1000000000):pS N (Ad a) n t o (i:Int) K=K ((val a/2 ^ i%2:Nat):Int):=by
 subst L
 have D:i/32<a.length:=by omega
 have aj:=A3 I D
 rw[mI];unfold sB
 have T:wrap .i64 (Int.tdiv (i:Int) 32)=((i/32:Nat):Int):=by rw[show(32:Int)=((32:Nat):Int) by rfl,XR,i64 (by omega)]
 have Y:wrap .u64 (Int.tmod (i:Int) 32)=((i%32:Nat):Int):=by rw[show(32:Int)=((32:Nat):Int) by rfl,RW,Ib (by omega)]
 rw[T,Y,show decide (((i/32:Nat):Int)>=(a.length:Int))=false by rw[decide_eq_false_iff_not];omega,cf,Aa D,ct,OY D,show decide (((i%32:Nat):Int)<0)=false by rw[decide_eq_false_iff_not];omega,cf,A2u,A3h (by omega),Q5]
 have G:a[i/32]/2 ^ (i%32)<4294967296:=A3x (A4t _ _) aj
 have e:=Ah2 (k:=.u32) rfl (a:=a[i/32]/2 ^ (i%32)) (b:=1) G (by decide)
 rw[show(1:Int)=((1:Nat):Int) by rfl,e,Nat.and_one_is_mod]
 have:=Ath I D (k:=i%32) (by omega)
 rw[A4c]at this
 rw[this]
def Aqm{Q:List Nat}{j k:Nat}(hQ:Af Q)(h:j<Q.length)(I:k<32)(D:2 ^ (32*j+k+1)∣val Q):2 ^ (k+1)∣Q[j]:=by
 have tl:=Bi (Co hQ j)
 rw[A3b,A3h (by omega)]at tl
 have hP:0<4294967296 ^ j:=A4l (by omega)
 rw[A4d,j_,Ae1 h]at D
 have G:val (Q.take j)=0:=by
  have x1:4294967296 ^ j∣val (Q.take j):=(A7p (A8g _ _)).1 (Nat.dvd_trans (A8g _ _) D)
  exact Nat.eq_zero_of_dvd_of_lt x1 tl
 rw[G,A22]at D
 have x2:=Nat.dvd_of_mul_dvd_mul_left hP D
 have x3:2 ^ (k+1)∣4294967296*val (Q.drop (j+1)):=Nat.dvd_trans ⟨2 ^ (31 - k),by rw[<-A32,show k+1+(31 - k)=32 by omega]⟩ (A8g _ _)
 exact(A7p x3).1 x2
def kA{N:Nat}{a b:List Nat}{t o:Bool}{B:Nat}(ha:Af a)(T:b=Ak B)(hB:0<B)(L:fit (a.length+2*b.length+4) N):∀(i D:Nat)(Q:List Nat)(r:Nat),i<D->i<=32*a.length->Af Q->Q.length=a.length->r=val a/2 ^ i%B->val Q=val a/2 ^ i/B*2 ^ i ->
  ∀ K:Nat->Nat->Bool->LA->LA->O R,Fd N K (Ad a) a.length t o b.length (Ad b) D (Ak r).length ((i:Int) - 1) (Ad Q) (Ad (Ak r))=K (Ak (val a/B)).length (Ak (val a%B)).length true (Ad (Ak (val a/B))) (Ad (Ak (val a%B)))
| 0,D+1,Q,r,_,_,hQ,hl,hr,Y=>by
  intro K
  rw[A7c,A94]at hr Y
  rw[A3g]at Y
  have lr:(Ak r).length<=b.length:=by
   rw[T];apply By;rw[hr];exact A8z (A4r _ hB)
  rw[Fd];unfold Rw
  rw[show decide ((((0:Nat):Int) - 1)>=0)=false by rfl,cf,A3g,A2t (by rw[Bx];omega),Dm hl.symm hQ (by rw[hl];exact L.le (by omega)),A3g,A2t (by rw[Bx];omega),Dm rfl (Ac _) (L.le (by omega)),Ae,Y,hr]
| i+1,D+1,Q,r,hfu,hi,hQ,hl,hr,Y=>by
  intro K
  have h1:=L.1;have h2:=L.2
  have hrB:r<B:=by rw[hr];exact A4r _ hB
  have lr:(Ak r).length<=b.length:=by rw[T];exact By (A8z hrB)
  have I:val a/2 ^ i=2*(val a/2 ^ (i+1))+val a/2 ^ i%2:=by
   have:=A4c (val a/2 ^ i) 2
   rw[A7b,<-A25]at this
   exact this.symm
  have hdm:=A4c (val a/2 ^ (i+1)) B
  have hb2:val a/2 ^ i%2<2:=A4r _ (by omega)
  generalize hH:val a/2 ^ (i+1)=H at *
  generalize hbit:val a/2 ^ i%2=bt at *
  have G:val a/2 ^ i=B*(2*(H/B))+(2*r+bt):=by
   rw[I,hr,A45];omega
  clear hr hdm I
  have hj:i/32<Q.length:=by omega
  have qj:=A3 hQ hj
  have hdvd:2 ^ (32*(i/32)+i%32+1)∣val Q:=by rw[A4c,Y];exact Nat.dvd_mul_left _ _
  have hfree:=Aqm hQ hj (A4r _ (by omega)) hdvd
  have hpw:2 ^ i=4294967296 ^ (i/32)*2 ^ (i%32):=by rw[<-j_,A4c]
  have hpk:2 ^ (i%32+1)<=4294967296:=(A3t (by omega) (show i%32+1<=32 by omega):2 ^ (i%32+1)<=2 ^ 32)
  have hor:Qe .u32 ((Q[i/32]:Nat):Int) (wrap .u32 ((1:Int)*2 ^ (min (Int.toNat ((i%32:Nat):Int)) 32)))=((Q[i/32]+2 ^ (i%32):Nat):Int)/\Q[i/32]+2 ^ (i%32)<4294967296:=by
   obtain⟨c,hc⟩:=hfree
   have hpos:0<2 ^ (i%32):=A4l (by omega)
   have hlt:Q[i/32]+2 ^ (i%32)<4294967296:=by
    obtain⟨w,hw⟩:∃ w,4294967296=2 ^ (i%32+1)*w:=⟨2 ^ (31 - i%32),by rw[<-A32,show i%32+1+(31 - i%32)=32 by omega]⟩
    have x1:c<w:=by rw[hc,hw]at qj;exact A5h qj
    have x2:=A3f (2 ^ (i%32+1)) (show c+1<=w from x1)
    rw[A21,<-hw,<-hc,A3g,A25]at x2
    omega
   refine⟨?_,hlt⟩
   rw[A2u,A3h (by omega),Int.one_mul,show(2:Int) ^ (i%32)=((2 ^ (i%32):Nat):Int) by simp,Aki (by rw[A25]at hpk;omega),xZ (k:=.u32) rfl qj (by show 2 ^ (i%32)<4294967296;rw[A25]at hpk;omega)]
   congr 1
   have e:Q[i/32]=c*2 ^ (i%32+1):=by rw[hc,A2w]
   rw[e];exact iU (by rw[A25];omega)
  have w1:wrap .i64 (Int.tdiv (i:Int) 32)=((i/32:Nat):Int):=by rw[show(32:Int)=((32:Nat):Int) by rfl,XR,i64 (by omega)]
  have w2:wrap .u64 (Int.tmod (i:Int) 32)=((i%32:Nat):Int):=by rw[show(32:Int)=((32:Nat):Int) by rfl,RW,Ib (by omega)]
  have l2:(Ak (2*r+bt)).length<=b.length+1:=by
   apply C7
   have x1:=Bi (Ac B)
   rw[Ae,<-T]at x1
   rw[A25];omega
  have second:Lk N (Fd N K (Ad a) a.length t o b.length (Ad b) D) K (Ad a) a.length t o b.length (i:Int) (Ad b) (Ad Q) (Ak (2*r+bt)).length (Ad (Ak (2*r+bt)))=K (Ak (val a/B)).length (Ak (val a%B)).length true (Ad (Ak (val a/B))) (Ad (Ak (val a%B))):=by
   unfold Lk
   have lb:Af b:=by rw[T];exact Ac _
   have vb:val b=B:=by rw[T,Ae]
   rw[A3g,A3g,A2t (by rw[Bx];omega),A2t (by rw[Bx];omega),j9 rfl rfl (Ac _) lb (L.le (by omega)),Ae,vb]
   by_cases hge:B<=2*r+bt
   ·have hq1:val a/2 ^ i/B=2*(H/B)+1:=by
     rw[G,show B*(2*(H/B))+(2*r+bt)=B*(2*(H/B)+1)+(2*r+bt - B) by rw[A21];omega,A6y hB,A4a (show 2*r+bt - B<B by omega),A30]
    have hm1:val a/2 ^ i%B=2*r+bt - B:=by
     rw[G,show B*(2*(H/B))+(2*r+bt)=B*(2*(H/B)+1)+(2*r+bt - B) by rw[A21];omega,A7z,A3s (by omega)]
    rw[if_pos hge,ct,w1,w2,Aa (by omega),ct,c_ hj,show decide (((i%32:Nat):Int)<0)=false by rw[decide_eq_false_iff_not];omega,cf,ct,pN hj,ct,hor.1,QU,i64 (by omega)]
    refine kA ha T hB L i D (Q.set (i/32) (Q[i/32]+2 ^ (i%32))) (2*r+bt - B) (by omega) (by omega) (Cw hQ hor.2 _) (by simpa using hl) hm1.symm ?_ K
    have x1:=eA (v:=Q[i/32]+2 ^ (i%32)) hj
    rw[A21,<-hpw]at x1
    rw[hq1,A23,A8j,A2w 2,A20,A2w 2,<-A25,<-Y]
    omega
   ·have hq1:val a/2 ^ i/B=2*(H/B):=by rw[G,A6y hB,A4a (show 2*r+bt<B by omega),A30]
    have hm1:val a/2 ^ i%B=2*r+bt:=by rw[G,A7z,A3s (by omega)]
    rw[if_neg hge,cf,i64 (by omega)]
    refine kA ha T hB L i D Q (2*r+bt) (by omega) (by omega) hQ hl hm1.symm ?_ K
    rw[hq1,A2w 2,A20,A2w 2,<-A25,<-Y]
  rw[Fd];unfold Rw
  rw[show(((i+1:Nat):Int) - 1)=(i:Int) by omega,show decide ((i:Int)>=0)=true by rw[decide_eq_true_eq];omega,ct,A3g,A2t (by rw[Bx];omega),j8 rfl rfl (Ac _) (Ac _) (L.le (by omega)),Ae,Anm rfl ha (by omega) (by omega),hbit]
  have l3:(Ak (r+r)).length<=b.length+1:=by
   apply C7
   have x1:=Bi (Ac B)
   rw[Ae,<-T]at x1
   rw[A25];omega
  rcases(show bt=0\/bt=1 by omega)with rfl|rfl
  ·rw[show(((0:Nat):Int)==1)=false by rfl,cf]
   rw[show 2*r+0=r+r by omega]at second
   exact second
  ·rw[show(((1:Nat):Int)==1)=true by rfl,ct,A3g,A2t (by rw[Bx];omega)]
   have:=j8 (R:=R) (N:=N) (a:=Ak (r+r)) (b:=[1]) (n:=(Ak (r+r)).length) (m:=1) (t:=false) (o:=true) (t':=false) (o':=true) (K:=fun af ag=>Lk N (Fd N K (Ad a) a.length t o b.length (Ad b) D) K (Ad a) a.length t o b.length (i:Int) (Ad b) (Ad Q) af ag) rfl rfl (Ac _) (by intro x hx;simp at hx;omega) (L.le (by simp;omega))
   rw[Ae,show val [1]=1 by rfl,show r+r+1=2*r+1 by omega]at this
   exact this.trans second
def LJ{N:Nat}{a b:List Nat}{n m:Nat}{t o t' o':Bool}{K:Nat->Nat->Bool->LA->LA->O R}(T:n=a.length)(hm:m=b.length)(Y:Af a)(hb:Af b)(I:val b≠0)(G:fit (a.length+2*b.length+4) N):
  T6 N (Ad a) n t o (Ad b) m t' o' K=K (Ak (val a/val b)).length (Ak (val a%val b)).length true (Ad (Ak (val a/val b))) (Ad (Ak (val a%val b))):=by
 have h1:=G.1;have h2:=G.2
 have lb:=(Bm hb).2
 have hbl:(Ak (val b)).length≠0:=fun h=>I (Br.1 h)
 rw[R_];unfold DL
 dsimp only
 have long:O5 N K (Ad a) n t o (Ak (val b)).length (Ad (Ak (val b)))=K (Ak (val a/val b)).length (Ak (val a%val b)).length true (Ad (Ak (val a/val b))) (Ad (Ak (val a%val b))):=by
  obtain⟨nb,n1,n2,n3,n4,n5⟩:=Aik (R:=R) (N:=N) (a:=a) (n:=n) (t:=false) (o:=o) T Y (G.le (by omega))
  unfold O5 AJ
  rw[n5,T,Aos (by omega),ct,C8,i64 (by omega)]
  have hz:val a/2 ^ nb=0:=A4a n2
  have:=kA (R:=R) (N:=N) (a:=a) (b:=Ak (val b)) (t:=t) (o:=o) (B:=val b) Y rfl (by omega) (G.le (by omega)) nb N (replicate a.length 0) 0 (by omega) n1 (Cu _) (by simp) (by rw[hz];simp) (by rw[hz,Ei];simp) K
  exact this
 rw[Dm hm hb (G.le (by omega)),vr hbl,cf,LI T Y (G.le (by omega)),A3g,A2t (by rw[Bx];exact A2s _)]
 by_cases D:val a<18446744073709551616
 ·rw[if_pos D,LI rfl (Ac _) (G.le (by omega)),Ae]
  by_cases k:val b<18446744073709551616
  ·have L:val a/val b<18446744073709551616:=A3x (A4t _ _) D
   have r64:val a%val b<18446744073709551616:=A3x (Nat.mod_le _ _) D
   rw[if_pos k,show((true:Bool)==true)=true by rfl,ct,Ady,ct,vr I,cf,XR,Ib L,DT L (by omega),cf,RW,DT r64 (by omega)]
  ·rw[if_neg k,show((true:Bool)==true)=true by rfl,ct,Ady,cf,long]
 ·rw[if_neg D,LI rfl (Ac _) (G.le (by omega)),Ae]
  by_cases k:val b<18446744073709551616
  ·rw[if_pos k,show((false:Bool)==true)=false by rfl,cf,long]
  ·rw[if_neg k,show((false:Bool)==true)=false by rfl,cf,long]
def Ann{N:Nat}:∀(k D A B:Nat),k<D->A*B<2 ^ k->B<A->fit (3*(Ak A).length+4) N->∀ K:Nat->LA->O R,Eo N K D (Ak A).length (Ak B).length (Ad (Ak A)) (Ad (Ak B))=K (Ak (Nat.gcd A B)).length (Ad (Ak (Nat.gcd A B))):=by
 have base:∀(D A:Nat)(K:Nat->LA->O R),Eo N K (D+1) (Ak A).length (Ak 0).length (Ad (Ak A)) (Ad (Ak 0))=K (Ak (Nat.gcd A 0)).length (Ad (Ak (Nat.gcd A 0))):=by
  intro D A K
  rw[Eo];unfold Qq
  rw[D6,show decide (((([]:List Nat).length:Nat):Int)>0)=false by decide,cf,A48]
 intro k
 induction k with
| zero =>
  intro D A B T G I L K
  obtain⟨D,rfl⟩:∃ F,D=F+1:=⟨D - 1,by omega⟩
  have Y:B=0:=by
   rcases A3j B with h|h
   ·exact h
   ·have h3:=A3f A (show 1<=B by omega)
    rw[A7c]at G;omega
  subst Y
  exact base D A K
|succ k ih =>
  intro D A B T G I L K
  have h1:=L.1;have h2:=L.2
  obtain⟨D,rfl⟩:∃ F,D=F+1:=⟨D - 1,by omega⟩
  rcases A3j B with h|h
  ·subst h;exact base D A K
  have hll:=By (A8z I)
  have hbl:(Ak B).length≠0:=fun h0=>by have:=Br.1 h0;omega
  have hm:=A4r A h
  have hh:=RZ (show 1<=B by omega) (A8z I)
  have:=ih D B (A%B) (by omega) (by rw[A25]at G;omega) hm (L.le (by omega)) K
  have hg:Nat.gcd B (A%B)=Nat.gcd A B:=by rw[A4n,<-A8h,A4n]
  rw[hg]at this
  rw[Eo];unfold Qq
  rw[show decide ((((Ak B).length:Nat):Int)>0)=true by rw[decide_eq_true_eq];omega,ct,A3g,A3g,A2t (by rw[Bx];exact A2s _),A2t (by rw[Bx];exact A2s _),LJ rfl rfl (Ac _) (Ac _) (by rw[Ae];omega) (L.le (by omega)),Ae,Ae]
  exact this
def Ano{N:Nat}{a b:List Nat}{n m:Nat}{t o t' o':Bool}{K:Nat->LA->O R}(Y:n=a.length)(hm:m=b.length)(G:Af a)(I:Af b)(D:fit (3*(a.length+b.length)+4) N):
  eN N (Ad a) n t o (Ad b) m t' o' K=K (Ak (Nat.gcd (val a) (val b))).length (Ad (Ak (Nat.gcd (val a) (val b)))):=by
 have h1:=D.1;have h2:=D.2
 have la:=(Bm G).2
 have lb:=(Bm I).2
 have L:val a*val b<2 ^ (32*(a.length+b.length)):=by rw[<-Aes];exact A33 (Bi G) (Bi I)
 rw[mZ];unfold eM
 rw[Dm Y G (D.le (by omega)),Dm hm I (D.le (by omega))]
 obtain⟨F,hF⟩:∃ F,N=F+1:=⟨N - 1,by omega⟩
 rcases A3j (val b)with h|h
 ·rw[h,D6,A48,hF,Eo];unfold Qq
  rw[show decide (((([]:List Nat).length:Nat):Int)>0)=false by decide,cf]
 ·have T:=A4r (val a) h
  have hbl:(Ak (val b)).length≠0:=fun h0=>by have:=Br.1 h0;omega
  have k:val b*(val a%val b)<2 ^ (32*(a.length+b.length)):=by
   have:val b*(val a%val b)<=val b*val a:=A3f _ (Nat.mod_le _ _)
   rw[A2w (val b) (val a)]at this;omega
  have:=Ann (R:=R) (N:=N) (32*(a.length+b.length)) F (val b) (val a%val b) (by omega) k T (D.le (by omega)) K
  have hg:Nat.gcd (val b) (val a%val b)=Nat.gcd (val a) (val b):=by rw[A4n,<-A8h,A4n]
  rw[hg]at this
  have e:Eo N K (F+1) (Ak (val a)).length (Ak (val b)).length (Ad (Ak (val a))) (Ad (Ak (val b)))=Eo N K F (Ak (val b)).length (Ak (val a%val b)).length (Ad (Ak (val b))) (Ad (Ak (val a%val b))):=by
   rw[Eo];unfold Qq
   rw[show decide ((((Ak (val b)).length:Nat):Int)>0)=true by rw[decide_eq_true_eq];omega,ct,A3g,A3g,A2t (by rw[Bx];exact A2s _),A2t (by rw[Bx];exact A2s _),LJ rfl rfl (Ac _) (Ac _) (by rw[Ae];omega) (D.le (by omega)),Ae,Ae]
  conv=>lhs;rw[show(Eo N K N)=Eo N K (F+1) by rw[<-hF]]
  rw[e];exact this
inductive LS where
|nil
|of (l:List Nat) (t o:Bool)
def LS.l:LS->List Nat
|.nil=>[]
|.of l _ _=>l
def LS.av:LS->AV
|.nil=>.nsl
|.of l t o=>.imm (Ad l) l.length 1 t o
def tU{s:LS}{r:LA}{f:LA->Nat->O R}:Dd 1 (s.av::r) f=f (Ad s.l) s.l.length:=by cases s<;>simp[Dd,LS.av,LS.l,Aow,Ad]
def Auv{b:Bool}{r:LA}{f:Bool->O R}:Wg (.bool b::r) f=f b:=by simp[Wg,asBool]
def Jr(neg:Bool)(s:LS):LA:=[.bool neg,s.av]
def Au(neg:Bool)(s:LS):Int:=if neg then -(val s.l:Int)else(val s.l:Int)
def Cz(neg:Bool)(s:LS):(Au neg s).natAbs=val s.l:=by unfold Au;cases neg<;>simp
def Rx{neg:Bool}{s:LS}{f:Bool->O R}:Wg (Jr neg s) f=f neg:=Auv
def Ol{neg:Bool}{s:LS}{f:LA->Nat->O R}:Dd 1 (drop 1 (Jr neg s)) f=f (Ad s.l) s.l.length:=by rw[Jr,A56,A3m,tU]
def Mv{N:Nat}{c:Bool}{a:Nat}{b:LA}{K:Bool->O R}:La N c a b K=K (c&&decide (0<a)):=by
 rw[WV];unfold YZ
 cases c<;>simp
def Y7{z:Int}{c:Bool}{m:Nat}(h:z=if c then -(m:Int)else(m:Int)):(c&&decide (0<(Ak m).length))=decide (z<0)/\z.natAbs=m:=by
 have G:z.natAbs=m:=by rw[h];cases c<;>simp
 refine⟨?_,G⟩
 by_cases D:m=0
 ·subst D;rw[h,D6];cases c<;>simp
 ·have:0<(Ak m).length:=by
   rcases A3j (Ak m).length with k|k
   ·exact absurd (Br.1 k) D
   ·exact k
  rw[h];cases c<;>simp[this]<;>omega
def wJ{N:Nat}{v:Int}(L:-9223372036854775808<=v/\v<=9223372036854775807)(hN:4<=N):∃ S,Af S/\val S=v.natAbs/\∀ K:Bool->Nat->LA->O R,JG N v K=K (decide (v<0)) (Ak v.natAbs).length (Ad S):=by
 have G:v.natAbs<18446744073709551616:=by omega
 obtain⟨S,s1,s2,D⟩:=J9 (R:=R) (N:=N) G hN
 refine⟨S,s1,s2,fun K=>?_⟩
 rw[QK];unfold QJ
 by_cases h:v<0
 ·have e:wrap .u64 ((0:Int) - wrap .u64 v)=(v.natAbs:Int):=by rw[YX,YX];omega
  rw[decide_eq_true h,ct,e,D,Mv]
  have I:v.natAbs≠0:=by omega
  have:0<(Ak v.natAbs).length:=by
   rcases A3j (Ak v.natAbs).length with k|k
   ·exact absurd (Br.1 k) I
   ·exact k
  simp[this]
 ·have e:wrap .u64 v=(v.natAbs:Int):=by rw[YX];omega
  rw[decide_eq_false h,cf,e,D,Mv];rfl
def aF{N:Nat}{neg:Bool}{s:LS}{o:Bool}{K:Int->O R}(hs:Af s.l)(k:fit s.l.length N):UU N (Jr neg s) o K=K (Au neg s).sign:=by
 rw[mE];unfold r7
 rw[Ol,s_ rfl hs k]
 unfold Au
 by_cases h:val s.l=0
 ·rw[h,Y5,show((0:Int)==0)=true by rfl,ct];cases neg<;>rfl
 ·have:Hj (val s.l) 0=1:=by unfold Hj;rw[if_neg (by omega),if_pos (by omega)]
  rw[this,show((1:Int)==0)=false by rfl,cf,Rx]
  cases neg
  ·rw[cf];simp only[A4m,if_false]
   congr 1
   rw[A4j];omega
  ·rw[ct];simp only[if_true]
   congr 1
   rw[A3u];omega
def HQ{N:Nat}{n1 n2:Bool}{s1 s2:LS}{o1 o2:Bool}(D:Af s1.l)(G:Af s2.l)(I:fit (s1.l.length+s2.l.length) N):∃ S,Af S/\val S=(Au n1 s1*Au n2 s2).natAbs/\∀ K:Bool->Nat->LA->O R,QR N (Jr n1 s1) o1 (Jr n2 s2) o2 K=K (decide (Au n1 s1*Au n2 s2<0)) (Ak (Au n1 s1*Au n2 s2).natAbs).length (Ad S):=by
 obtain⟨S,a1,a2,a3⟩:=RV (R:=R) (N:=N) (a:=s1.l) (b:=s2.l) (t:=false) (o:=o1) (t':=false) (o':=o2) rfl rfl D G I
 have L:Au n1 s1*Au n2 s2=if (!(n1==n2))then -((val s1.l*val s2.l:Nat):Int)else((val s1.l*val s2.l:Nat):Int):=by
  unfold Au;cases n1<;>cases n2<;>simp[A93,Int.neg_mul]
 obtain⟨c1,k⟩:=Y7 L
 refine⟨S,a1,by rw[a2,k],fun K=>?_⟩
 rw[rT];unfold zj
 rw[Rx,Rx,Ol,Ol,a3,Mv,c1,k]
def yH{N:Nat}{n1 n2:Bool}{s1 s2:LS}{o1 o2:Bool}(I:Af s1.l)(L:Af s2.l)(T:fit (s1.l.length+s2.l.length+1) N):∃ S,Af S/\val S=(Au n1 s1+Au n2 s2).natAbs/\∀ K:Bool->Nat->LA->O R,r_ N (Jr n1 s1) o1 (Jr n2 s2) o2 K=K (decide (Au n1 s1+Au n2 s2<0)) (Ak (Au n1 s1+Au n2 s2).natAbs).length (Ad S):=by
 by_cases Y:n1=n2
 ·subst Y
  obtain⟨S,a1,a2,a3⟩:=Ap9 (R:=R) (N:=N) (a:=s1.l) (b:=s2.l) (t:=false) (o:=o1) (t':=false) (o':=o2) rfl rfl I L T
  have D:Au n1 s1+Au n1 s2=if n1 then -((val s1.l+val s2.l:Nat):Int)else((val s1.l+val s2.l:Nat):Int):=by
   unfold Au;cases n1<;>simp;omega
  obtain⟨c1,k⟩:=Y7 D
  refine⟨S,a1,by rw[a2,k],fun K=>?_⟩
  rw[JR];unfold dD
  rw[Rx,Rx,show(n1==n1)=true by simp,ct,Rx,Ol,Ol,a3,Mv,c1,k]
 ·have G:(n1==n2)=false:=by simp[Y]
  by_cases hle:val s2.l<=val s1.l
  ·obtain⟨S,a1,a2,a3⟩:=se (R:=R) (N:=N) (a:=s1.l) (b:=s2.l) (t:=false) (o:=o1) (t':=false) (o':=o2) rfl rfl I L (T.le (by omega)) hle
   have D:Au n1 s1+Au n2 s2=if n1 then -((val s1.l - val s2.l:Nat):Int)else((val s1.l - val s2.l:Nat):Int):=by
    unfold Au;cases n1<;>cases n2<;>simp at Y ⊢<;>omega
   obtain⟨c1,k⟩:=Y7 D
   refine⟨S,a1,by rw[a2,k],fun K=>?_⟩
   rw[JR];unfold dD
   rw[Rx,Rx,G,cf,Ol,Ol,a3,ct,Rx,Mv,c1,k]
  ·obtain⟨S,a1,a2,a3⟩:=se (R:=R) (N:=N) (a:=s2.l) (b:=s1.l) (t:=false) (o:=o2) (t':=false) (o':=o1) rfl rfl L I (T.le (by omega)) (by omega)
   have D:Au n1 s1+Au n2 s2=if n2 then -((val s2.l - val s1.l:Nat):Int)else((val s2.l - val s1.l:Nat):Int):=by
    unfold Au;cases n1<;>cases n2<;>simp at Y ⊢<;>omega
   obtain⟨c1,k⟩:=Y7 D
   refine⟨S,a1,by rw[a2,k],fun K=>?_⟩
   rw[JR];unfold dD
   rw[Rx,Rx,G,cf,Ol,Ol,Aqa rfl rfl I L (T.le (by omega)) (by omega),cf,Ol,Ol,a3,Rx,Mv,c1,k]
def Ail{N:Nat}{n1:Bool}{s1:LS}{o1:Bool}{K:Bool->Nat->LA->O R}(k:Af s1.l)(D:fit s1.l.length N):pQ N (Jr n1 s1) o1 K=K (decide (Au n1 s1<0)) (Ak (Au n1 s1).natAbs).length (Ad (Ak (Au n1 s1).natAbs)):=by
 obtain⟨c1,G⟩:=Y7 (z:=Au n1 s1) (c:=n1) (m:=val s1.l) (by unfold Au;cases n1<;>simp)
 rw[mC];unfold rW
 rw[Rx,Ol,VC rfl k D,Mv,c1,G]
def fB(x y:Int):Int:=if x<y then -1 else if y<x then 1 else 0
def Aqn(x y:Nat):fB (x:Int) (y:Int)=Hj x y:=by unfold fB Hj;simp
def Aqo(x y:Nat):fB (-(x:Int)) (-(y:Int))=Hj y x:=by
 unfold fB Hj
 by_cases h:y<x
 ·rw[if_pos (by omega),if_pos h]
 ·rw[if_neg (by omega),if_neg h]
  by_cases k:x<y
  ·rw[if_pos (by omega),if_pos k]
  ·rw[if_neg (by omega),if_neg k]
def wK{N:Nat}{n1 n2:Bool}{s1 s2:LS}{o1 o2:Bool}{K:Int->O R}(G:Af s1.l)(I:Af s2.l)(D:fit (s1.l.length+s2.l.length) N):JV N (Jr n1 s1) o1 (Jr n2 s2) o2 K=K (fB (Au n1 s1) (Au n2 s2)):=by
 rw[Q'];unfold Q_
 have l2:∀ n s,take 2 (Jr n s)=Jr n s:=fun n s=>rfl
 have l3:∀ n s,ble 2 (List.length (Jr n s))=true:=fun n s=>rfl
 rw[l2,l2,l3,l3,ct,aF G (D.le (by omega)),ct,aF I (D.le (by omega))]
 have sg:∀ z:Int,z.sign=if z<0 then -1 else if 0<z then 1 else 0:=by
  intro z
  rcases A6k z 0 with h|h|h
  ·rw[A3u h,if_pos h]
  ·subst h;rfl
  ·rw[A4j h,if_neg (by omega),if_pos h]
 by_cases c1:(Au n1 s1).sign<(Au n2 s2).sign
 ·rw[decide_eq_true c1,ct]
  rw[sg,sg]at c1
  unfold fB;rw[if_pos]
  split at c1<;>split at c1<;>(try split at c1)<;>(try split at c1)<;>omega
 ·rw[decide_eq_false c1,cf]
  by_cases k:(Au n1 s1).sign>(Au n2 s2).sign
  ·rw[decide_eq_true k,ct]
   rw[sg,sg]at k
   unfold fB;rw[if_neg,if_pos]
   ·split at k<;>split at k<;>(try split at k)<;>(try split at k)<;>omega
   ·split at k<;>split at k<;>(try split at k)<;>(try split at k)<;>omega
  ·rw[decide_eq_false k,cf]
   have T:(Au n1 s1).sign=(Au n2 s2).sign:=by omega
   by_cases c3:(Au n1 s1).sign<0
   ·rw[decide_eq_true c3,ct,Ol,Ol,Qo rfl rfl I G (D.le (by omega))]
    have p1:Au n1 s1<0:=by rw[sg]at c3;split at c3;assumption;split at c3<;>omega
    have p2:Au n2 s2<0:=by rw[T,sg]at c3;split at c3;assumption;split at c3<;>omega
    have e1:Au n1 s1=-(val s1.l:Int):=by unfold Au at p1 ⊢;cases n1<;>simp at p1 ⊢;omega
    have L:Au n2 s2=-(val s2.l:Int):=by unfold Au at p2 ⊢;cases n2<;>simp at p2 ⊢;omega
    rw[e1,L,Aqo]
   ·rw[decide_eq_false c3,cf,Ol,Ol,Qo rfl rfl G I (D.le (by omega))]
    have p1:0<=Au n1 s1:=by
     apply Int.not_lt.1;intro h;rw[A3u h]at c3;omega
    have p2:0<=Au n2 s2:=by
     apply Int.not_lt.1;intro h;rw[T,A3u h]at c3;omega
    have e1:Au n1 s1=(val s1.l:Int):=by have:=Cz n1 s1;omega
    have L:Au n2 s2=(val s2.l:Int):=by have:=Cz n2 s2;omega
    rw[e1,L,Aqn]
def tV(z:Int)(d:Nat)(G:d≠0):(mkRat z d).num.natAbs=z.natAbs/Nat.gcd z.natAbs d/\((mkRat z d).num<0↔z<0)/\(mkRat z d).den=d/Nat.gcd z.natAbs d:=by
 have I:0<Nat.gcd z.natAbs d:=A54 _ (by omega)
 rw[A9p,A9n,if_neg G,if_neg G,A4n d]
 have k:((Nat.gcd z.natAbs d:Nat):Int)∣z:=Int.dvd_natAbs.1 (Int.natCast_dvd_natCast.2 (A5j _ _))
 obtain⟨c,hc⟩:=k
 have L:z.natAbs.gcd d=Nat.gcd z.natAbs d:=rfl
 generalize Nat.gcd z.natAbs d=g at *
 refine⟨?_,?_,rfl⟩
 ·rw[hc,A53 _ (by omega),A5c,A3c,A8s _ I]
 ·rw[hc,A53 _ (by omega)]
  constructor
  ·intro h;exact Int.mul_neg_of_pos_of_neg (by omega) h
  ·intro h;rcases Int.lt_or_le c 0 with D|D
   ·exact D
   ·have:=A8b (show(0:Int)<=g by omega) D;omega
structure RatD where
 neg:Bool
 ns:LS
 ds:LS
def RatD.av(x:RatD):LA:=[.bool x.neg,x.ns.av,x.ds.av]
def RatD.ok(x:RatD):Prop:=Af x.ns.l/\Af x.ds.l
def RatD.m(x:RatD):Nat:=max x.ns.l.length x.ds.l.length
def RatD.q(x:RatD):Rat:=mkRat (Au x.neg x.ns) (val x.ds.l)
def RatD.can(x:RatD)(q:Rat):Prop:=x.neg=decide (q.num<0)/\x.ns.l=Ak q.num.natAbs/\x.ds.l=Ak q.den
def qm(q:Rat):Nat:=max (Ak q.num.natAbs).length (Ak q.den).length
def RatD.can.ok{x:RatD}{q:Rat}(h:x.can q):x.ok:=⟨by rw[h.2.1];exact Ac _,by rw[h.2.2];exact Ac _⟩
def RatD.can.m{x:RatD}{q:Rat}(h:x.can q):x.m=qm q:=by unfold RatD.m qm;rw[h.2.1,h.2.2]
def RatD.can.q{x:RatD}{q:Rat}(h:x.can q):x.q=q:=by
 unfold RatD.q Au
 rw[h.1,h.2.1,h.2.2,Ae,Ae]
 have:(if decide (q.num<0)=true then -(q.num.natAbs:Int)else(q.num.natAbs:Int))=q.num:=by
  by_cases k:q.num<0
  ·rw[if_pos (by simpa using k)];omega
  ·rw[if_neg (by simpa using k)];omega
 rw[this,Rat.mkRat_self]
def Av7{x:RatD}{f:Bool->O R}:Wg x.av f=f x.neg:=Auv
def Aim{x:RatD}{f:LA->Nat->O R}:Dd 1 (drop 1 x.av) f=f (Ad x.ns.l) x.ns.l.length:=by rw[RatD.av,A56,A3m,tU]
def kB{x:RatD}{f:LA->Nat->O R}:Dd 1 (drop 2 x.av) f=f (Ad x.ds.l) x.ds.l.length:=by rw[RatD.av,A56,A56,A3m,tU]
def Jb(x:RatD):ble 3 (List.length x.av)=true:=rfl
def Eg(x:RatD):take 3 x.av=x.av:=rfl
def Auw(x:RatD):take 2 x.av=Jr x.neg x.ns:=rfl
def Ayc(x:RatD):beq (List.length x.av) 3=true:=rfl
def XW(n:Bool)(s:LS):((beq 0 0)&&((beq (List.length (Jr n s)) 2)&&(beq 2 2)))=true:=rfl
def aG(n:Bool)(s:LS):ble 2 (List.length (Jr n s))=true:=rfl
def vu(n:Bool)(s:LS):take 2 (Jr n s)=Jr n s:=rfl
def Aqp:([.int .u32 1]:LA)=Ad [1]:=rfl
def Anp:Af [1]:=by intro x k;simp at k;omega
def Yj:Ak 1=[1]:=by rw[JD (by omega)];simp[D6]
def Ep{v:Nat}{S:List Nat}(k:Af S)(D:val S=v):take ((Ak v).length*1) (Ad S)=Ad (Ak v):=by rw[<-D,Lc k]
def Anq(neg:Bool)(l:List Nat)(t o:Bool):([.bool neg,.imm (Ad l) l.length 1 t o]:LA)=Jr neg (.of l t o):=rfl
def Iz{z:Int}{t o:Bool}:Au (decide (z<0)) (.of (Ak z.natAbs) t o)=z:=by
 unfold Au LS.l;rw[Ae]
 by_cases h:z<0
 ·rw[if_pos (by simpa using h)];omega
 ·rw[if_neg (by simpa using h)];omega
def wL{N:Nat}{v:Int}(k:-9223372036854775808<=v/\v<=9223372036854775807)(hN:4<=N):∃ d:RatD,d.can (v:Rat)/\∀ K:LA->O R,A7 N v K=K d.av:=by
 obtain⟨S,s1,s2,D⟩:=wJ (R:=R) (N:=N) k hN
 refine⟨⟨decide (v<0),.of (Ak v.natAbs) false false,.of (Ak 1) false false⟩,⟨rfl,rfl,rfl⟩,fun K=>?_⟩
 rw[QM];unfold QL
 rw[D,Ep s1 s2,Yj];rfl
def Mw{N:Nat}{x:RatD}{o:Bool}(D:x.ok)(L:fit x.m N):∃(neg:Bool)(s:LS)(l:List Nat)(o1 o2:Bool),Af s.l/\Af l/\val l≠0/\s.l.length<=x.m/\l.length<=max x.m 1/\mkRat (Au neg s) (val l)=x.q/\∀ K:LA->Bool->LA->Nat->Bool->O R,Mh N x.av o K=K (Jr neg s) o1 (Ad l) l.length o2:=by
 have G:x.ns.l.length<=x.m:=A50 _ _
 have k:x.ds.l.length<=x.m:=A6a _ _
 by_cases I:val x.ds.l=0
 ·refine⟨false,.nil,[1],false,false,Tp,Anp,by decide,by simp[LS.l],by simp;omega,?_,fun K=>?_⟩
  ·unfold RatD.q;rw[I];simp[Au,LS.l,val]
  ·rw[JK];unfold UO
   rw[kB,s_ rfl D.2 (L.le k),I,Y5];rfl
 ·refine⟨x.neg,x.ns,x.ds.l,o,o,D.1,D.2,I,G,by omega,rfl,fun K=>?_⟩
  have:Hj (val x.ds.l) 0=1:=by unfold Hj;rw[if_neg (by omega),if_pos (by omega)]
  rw[JK];unfold UO
  rw[kB,s_ rfl D.2 (L.le k),this,show((1:Int)==0)=false by rfl,cf,show ble 2 (List.length x.av)=true by rfl,ct,kB,Auw,XW,ct,aG,ct,vu]
def Ayd(z:Int)(d:Nat)(k:d≠0):(mkRat z d).num.sign=z.sign:=by
 obtain⟨G,D,_⟩:=tV z d k
 rcases A6k z 0 with h|h|h
 ·rw[A3u h,A3u (D.2 h)]
 ·subst h;simp
 ·have I:¬ (mkRat z d).num<0:=fun hh=>by have:=D.1 hh;omega
  have L:(mkRat z d).num≠0:=fun hh=>by
   have:mkRat z d=0:=A6h.1 hh
   rw[Rat.mkRat_eq_zero k]at this;omega
  rw[A4j h,A4j (by omega)]
def Io{N:Nat}{x:RatD}{o:Bool}{K:Int->O R}(D:x.ok)(k:fit x.m N):Rf N x.av o K=K x.q.num.sign:=by
 obtain⟨neg,s,l,o1,o2,p1,p2,G,I,T,p6,L⟩:=Mw (R:=R) (o:=o) D k
 rw[mF];unfold r8
 rw[Jb,ct,Eg,L,XW,ct,aG,ct,vu,aF p1 (k.le I),<-p6,Ayd _ _ G]
def Ip{N:Nat}{x:RatD}{o:Bool}(D:x.ok)(G:fit x.m N):(∃(n:Int)(d:Nat),-2147483648<n/\n<2147483648/\0<d/\d<2147483648/\mkRat n d=x.q/\∀ K:Int->Int->Bool->O R,G5 N x.av o K=K n (d:Int) true)\/(∀ K:Int->Int->Bool->O R,G5 N x.av o K=K 0 0 false):=by
 have I:x.ns.l.length<=x.m:=A50 _ _
 have k:x.ds.l.length<=x.m:=A6a _ _
 by_cases h1:val x.ns.l<2147483648
 ·by_cases h2:val x.ds.l<2147483648
  ·left
   have e:∀ K:Int->Int->Bool->O R,G5 N x.av o K=Fe N K (val x.ns.l:Int) (val x.ds.l:Int) o x.av false:=by
    intro K
    rw[X3];unfold Y2
    rw[Aim,Mt rfl D.1 (G.le I),if_pos (by omega),kB,Mt rfl D.2 (G.le k),if_pos (by omega)]
    rw[show((!true)==false)=true by rfl,ct,show((cond false true (!true))==false)=true by rfl,ct,show decide (((val x.ns.l:Nat):Int)>=2147483648)=false by rw[decide_eq_false_iff_not];omega,show((cond false true false)==false)=true by rfl,ct,show decide (((val x.ds.l:Nat):Int)>=2147483648)=false by rw[decide_eq_false_iff_not];omega]
    rfl
   by_cases T:val x.ds.l=0
   ·refine⟨0,1,by omega,by omega,by omega,by omega,by unfold RatD.q;rw[T];simp,fun K=>?_⟩
    rw[e];unfold Fe
    rw[cf,A08 T,ct];rfl
   ·have hn:=Cz x.neg x.ns
    refine⟨Au x.neg x.ns,val x.ds.l,by omega,by omega,by omega,h2,rfl,fun K=>?_⟩
    rw[e];unfold Fe
    rw[cf,vr T,cf,Av7,i64 (a:=((val x.ns.l:Nat):Int)) (by omega),i64 (a:=((val x.ds.l:Nat):Int)) (by omega)]
    unfold Au
    cases x.neg
    ·rfl
    ·rw[ct,i64 (by omega),Int.zero_sub];rfl
  ·right
   intro K
   rw[X3];unfold Y2
   rw[Aim,Mt rfl D.1 (G.le I),if_pos (by omega),kB,Mt rfl D.2 (G.le k),show((!true)==false)=true by rfl]
   by_cases L:val x.ds.l<18446744073709551616
   ·rw[if_pos L,ct,show((cond false true (!true))==false)=true by rfl,ct,show decide (((val x.ns.l:Nat):Int)>=2147483648)=false by rw[decide_eq_false_iff_not];omega,show((cond false true false)==false)=true by rfl,ct,show decide (((val x.ds.l:Nat):Int)>=2147483648)=true by rw[decide_eq_true_eq];omega]
    unfold Fe;rfl
   ·rw[if_neg L,ct,show((cond false true (!false))==false)=false by rfl,cf]
    unfold Fe;rfl
 ·right
  intro K
  rw[X3];unfold Y2
  rw[Aim,Mt rfl D.1 (G.le I)]
  by_cases L:val x.ns.l<18446744073709551616
  ·rw[if_pos L,kB,Mt rfl D.2 (G.le k),show((!true)==false)=true by rfl,show decide (((val x.ns.l:Nat):Int)>=2147483648)=true by rw[decide_eq_true_eq];omega]
   by_cases Y:val x.ds.l<18446744073709551616
   ·rw[if_pos Y,ct,show((cond false true (!true))==false)=true by rfl,ct]
    unfold Fe;rfl
   ·rw[if_neg Y,ct,show((cond false true (!false))==false)=false by rfl,cf]
    unfold Fe;rfl
  ·rw[if_neg L,kB,Mt rfl D.2 (G.le k),show((!false)==false)=false by rfl]
   split<;>(rw[cf];unfold Fe;rfl)
def yI{N:Nat}{a b c:Nat}{s:Int}(hN:4<=N)(ha:a<18446744073709551616)(hb:b<9223372036854775808)(hg0:0<c)(hga:c∣a):∀(k D x y:Nat),k<D->x*y<2 ^ k->y<=x->Nat.gcd x y=c->∃ d:RatD,d.neg=decide (s<0)/\d.ns.l=Ak (a/c)/\d.ds.l=Ak (b/c)/\∀ K:LA->O R,C9 N K s (b:Int) (a:Int) D (x:Int) (y:Int)=K d.av:=by
 have base:∀(D:Nat),∃ d:RatD,d.neg=decide (s<0)/\d.ns.l=Ak (a/c)/\d.ds.l=Ak (b/c)/\∀ K:LA->O R,C9 N K s (b:Int) (a:Int) (D+1) (c:Int) ((0:Nat):Int)=K d.av:=by
  intro D
  have Y:a/c<18446744073709551616:=A3x (A4t _ _) ha
  have q2:b/c<18446744073709551616:=A3x (A4t _ _) (by omega)
  obtain⟨S1,s1,s2,s3⟩:=J9 (R:=R) (N:=N) Y hN
  obtain⟨S2,t1,t2,t3⟩:=J9 (R:=R) (N:=N) q2 hN
  refine⟨⟨decide (s<0),.of (Ak (a/c)) false false,.of (Ak (b/c)) false false⟩,rfl,rfl,rfl,fun K=>?_⟩
  rw[C9];unfold Kp
  rw[show(((0:Nat):Int) != 0)=false by rfl,cf,vr (by omega),cf,XR,Ib Y,s3,cf,Ib (show b<18446744073709551616 by omega),XR,Ib q2,t3,Ep s1 s2,Ep t1 t2];rfl
 intro k
 induction k with
| zero =>
  intro D x y hf G L I
  obtain⟨D,rfl⟩:∃ F,D=F+1:=⟨D - 1,by omega⟩
  have hy:y=0:=by
   rcases A3j y with h|h
   ·exact h
   ·have h3:=A3f x (show 1<=y by omega)
    rw[A7c]at G;omega
  subst hy
  rw[A48]at I;subst I
  exact base D
| succ k ih =>
  intro D x y hf G L I
  obtain⟨D,rfl⟩:∃ F,D=F+1:=⟨D - 1,by omega⟩
  rcases A3j y with h|h
  ·subst h;rw[A48]at I;subst I;exact base D
  ·have hh:=RZ (show 1<=y by omega) L
   have hm:=A4r x h
   have T:Nat.gcd y (x%y)=Nat.gcd x y:=by rw[A4n,<-A8h,A4n]
   obtain⟨d,d1,d2,d3,d4⟩:=ih D y (x%y) (by omega) (by rw[A25]at G;omega) (by omega) (by rw[T,I])
   refine⟨d,d1,d2,d3,fun K=>?_⟩
   rw[C9];unfold Kp
   rw[show((y:Int) != 0)=true by rw[bne_iff_ne];omega,ct,vr (by omega),cf,RW]
   exact d4 K
def FR{N:Nat}{s:Int}{b:Nat}(hs:-9223372036854775808<=s/\s<=9223372036854775807)(I:0<b)(hb:b<9223372036854775808)(hN:1000<=N):∃ d:RatD,d.can (mkRat s b)/\∀ K:LA->O R,Jv N s (b:Int) K=K d.av:=by
 obtain⟨m1,m2,m3⟩:=tV s b (by omega)
 have k:∀ d:RatD,d.neg=decide (s<0)->d.ns.l=Ak (s.natAbs/Nat.gcd s.natAbs b)->d.ds.l=Ak (b/Nat.gcd s.natAbs b)->d.can (mkRat s b):=by
  intro d h1 h2 h3
  exact⟨by rw[h1];congr 1;exact propext m2.symm,by rw[h2,m1],by rw[h3,m3]⟩
 have G:s.natAbs<18446744073709551616:=by omega
 have start:∀ K:LA->O R,Jv N s (b:Int) K=C9 N K s (b:Int) (s.natAbs:Int) N (b:Int) (s.natAbs:Int):=by
  intro K
  rw[NN];unfold X4 Q7 Wl
  dsimp only
  by_cases h:s<0
  ·have e:wrap .u64 ((0:Int) - wrap .u64 s)=(s.natAbs:Int):=by rw[YX,YX];omega
   rw[decide_eq_true h,ct,e,Ib (by omega)]
  ·have e:wrap .u64 s=(s.natAbs:Int):=by rw[YX];omega
   rw[decide_eq_false h,cf,e,Ib (by omega)]
 have D:0<Nat.gcd s.natAbs b:=A54 _ I
 by_cases L:s.natAbs<=b
 ·obtain⟨d,T,Y,d3,d4⟩:=yI (R:=R) (N:=N) (a:=s.natAbs) (b:=b) (c:=Nat.gcd s.natAbs b) (s:=s) (by omega) G hb D (A5j _ _) 128 N b s.natAbs (by omega) (by
   have:=A33 (show b<18446744073709551616 by omega) G;exact this) L (A4n _ _)
  exact⟨d,k d T Y d3,fun K=>by rw[start,d4]⟩
 ·obtain⟨F,hF⟩:∃ F,N=F+1:=⟨N - 1,by omega⟩
  obtain⟨d,T,Y,d3,d4⟩:=yI (R:=R) (N:=N) (a:=s.natAbs) (b:=b) (c:=Nat.gcd s.natAbs b) (s:=s) (by omega) G hb D (A5j _ _) 128 F s.natAbs (b%s.natAbs) (by omega) (by
   rw[A3s (by omega)]
   have:=A33 G (show b<18446744073709551616 by omega);exact this) (by rw[A3s (by omega)];omega) (by rw[A3s (by omega)])
  refine⟨d,k d T Y d3,fun K=>?_⟩
  rw[start,<-d4 K]
  conv=>lhs;rw[show(C9 N K s (b:Int) (s.natAbs:Int) N)=C9 N K s (b:Int) (s.natAbs:Int) (F+1) by rw[<-hF]]
  rw[C9];unfold Kp
  rw[show((s.natAbs:Int) != 0)=true by rw[bne_iff_ne];omega,ct,vr (by omega),cf,RW]
def Ati{S:List Nat}{g:Nat}(G:Af S)(I:val S=g)(D:(Ak g).length=1){f:Int->O R}:Aj .u32 (Ad S) f=f (g:Int):=by
 have L:=(Bm G).2
 rw[I,D]at L
 have k:=Adz G
 rw[I,D]at k
 obtain⟨a,T⟩:∃ a,Ak g=[a]:=by
  match h:Ak g,D with
  |[a],_=>exact⟨a,rfl⟩
 have Y:a=g:=by have:=Ae g;rw[T]at this;simpa[val]using this
 rw[T,Y]at k
 match S,L,k with
|x::r,_,k =>
  simp at k;subst k
  rw[Y1,Aw]
def DU{N:Nat}{neg:Bool}{s:LS}{l:List Nat}{n:Nat}{o t o':Bool}(hn:n=l.length)(hs:Af s.l)(hl:Af l)(L:val l≠0)(D:fit (2*(s.l.length+l.length)+8) N):
  ∃ d:RatD,d.can (mkRat (Au neg s) (val l))/\∀ K:LA->O R,Qj N (Jr neg s) o (Ad l) n t o' K=K d.av:=by
 obtain⟨m1,m2,m3⟩:=tV (Au neg s) (val l) L
 have T:=Cz neg s
 have ls:=(Bm hs).2
 have ll:=(Bm hl).2
 generalize hz:Au neg s=z at *
 have start:∀ K:LA->O R,Qj N (Jr neg s) o (Ad l) n t o' K=cond ((((Ak z.natAbs).length:Nat):Int)==(0:Int)) (K [.bool false,.nsl,.imm [.int .u32 1] 1 1 false false]) (ZN N (Ad (Ak z.natAbs)) (Ak z.natAbs).length false true (Ad (Ak (val l))) (Ak (val l)).length false true fun f g=>cond (((f:Int) != (1:Int))==false) (cond (Ab (0:Int) f) (Aj .u32 g fun y=>cond (cond false true (y != (1:Int))) (Fm N (Ad (Ak z.natAbs)) (Ak z.natAbs).length false true (take (f*1) g) f false true fun p ae af z2 ag=>Fm N (Ad (Ak (val l))) (Ak (val l)).length false true (take (f*1) g) f false true fun q ah ai aa aj=>K [.bool (decide (z<0)),.imm (take (p*1) z2) p 1 false false,.imm (take (q*1) aa) q 1 false false]) (K [.bool (decide (z<0)),.imm (Ad (Ak z.natAbs)) (Ak z.natAbs).length 1 false false,.imm (Ad (Ak (val l))) (Ak (val l)).length 1 false false])) none) (Fm N (Ad (Ak z.natAbs)) (Ak z.natAbs).length false true (take (f*1) g) f false true fun r ak al ab am=>Fm N (Ad (Ak (val l))) (Ak (val l)).length false true (take (f*1) g) f false true fun s an ao ac ap=>K [.bool (decide (z<0)),.imm (take (r*1) ab) r 1 false false,.imm (take (s*1) ac) s 1 false false])):=by
  intro K
  rw[XG];unfold ZO
  have tk:∀ v:Nat,take ((Ak v).length*1) (Ad (Ak v))=Ad (Ak v):=fun v=>Ep (Ac _) (Ae v)
  rw[Rx,Ol,show beq (List.length (Jr neg s)) 2=true by rfl,ct,Anq,Ail (s1:=.of s.l false o) hs (D.le (by simp[LS.l];omega)),show Au neg (.of s.l false o)=z by rw[<-hz];rfl,VC hn hl (D.le (by omega)),tk,tk]
 by_cases h0:z=0
 ·refine⟨⟨false,.nil,.of [1] false false⟩,?_,fun K=>?_⟩
  ·rw[h0];simp only[Rat.zero_mkRat]
   exact⟨rfl,rfl,Yj.symm⟩
  ·rw[start,h0];rfl
 ·have Y:z.natAbs≠0:=by omega
  have I:(Ak z.natAbs).length≠0:=fun h=>Y (Br.1 h)
  have hg0:0<Nat.gcd z.natAbs (val l):=A54 _ (by omega)
  have lz:(Ak z.natAbs).length<=s.l.length:=by rw[T];exact ls
  obtain⟨G,g1,g2,g3⟩:=Aqk (R:=R) (N:=N) (a:=Ak z.natAbs) (b:=Ak (val l)) (t:=false) (o:=true) (t':=false) (o':=true) rfl rfl (Ac _) (Ac _) (D.le (by omega))
  rw[Ae,Ae]at g2 g3
  have lg:(Ak (Nat.gcd z.natAbs (val l))).length<=l.length:=A4f (By (Nat.gcd_le_right _ (by omega))) ll
  obtain⟨Q1,R1,a1,a2,a3,a4,a5⟩:=RY (R:=R) (N:=N) (a:=Ak z.natAbs) (b:=Ak (Nat.gcd z.natAbs (val l))) (t:=false) (o:=true) (t':=false) (o':=true) rfl rfl (Ac _) (Ac _) (by rw[Ae];omega) (D.le (by omega))
  obtain⟨Q2,R2,b1,b2,b3,b4,b5⟩:=RY (R:=R) (N:=N) (a:=Ak (val l)) (b:=Ak (Nat.gcd z.natAbs (val l))) (t:=false) (o:=true) (t':=false) (o':=true) rfl rfl (Ac _) (Ac _) (by rw[Ae];omega) (D.le (by omega))
  rw[Ae,Ae]at a2 a5 b2 b5
  have hn2:decide (z<0)=decide ((mkRat z (val l)).num<0):=by congr 1;exact propext m2.symm
  refine⟨⟨decide (z<0),.of (Ak (z.natAbs/Nat.gcd z.natAbs (val l))) false false,.of (Ak (val l/Nat.gcd z.natAbs (val l))) false false⟩,⟨hn2,by rw[m1];rfl,by rw[m3];rfl⟩,fun K=>?_⟩
  rw[start,vr I,cf,g3,Ep g1 g2]
  by_cases k:(Ak (Nat.gcd z.natAbs (val l))).length=1
  ·rw[show(((((Ak (Nat.gcd z.natAbs (val l))).length:Nat):Int) != (1:Int))==false)=true by rw[k];rfl,ct,show Ab 0 (Ak (Nat.gcd z.natAbs (val l))).length=true by rw[k];rfl,ct,Ati g1 g2 k]
   by_cases he:Nat.gcd z.natAbs (val l)=1
   ·rw[he,show(cond false true (((1:Nat):Int) != 1))=false by rfl,cf,A94,A94];rfl
   ·rw[show(cond false true (((Nat.gcd z.natAbs (val l):Nat):Int) != 1))=true by(show(((Nat.gcd z.natAbs (val l):Nat):Int) != 1)=true;rw[bne_iff_ne];omega),ct,a5,b5,Ep a1 a2,Ep b1 b2];rfl
  ·rw[show(((((Ak (Nat.gcd z.natAbs (val l))).length:Nat):Int) != (1:Int))==false)=false by(rw[show((((Ak (Nat.gcd z.natAbs (val l))).length:Nat):Int) != (1:Int))=true by rw[bne_iff_ne];omega];rfl),cf,a5,b5,Ep a1 a2,Ep b1 b2];rfl
def LK{N:Nat}{x:RatD}{o:Bool}(G:x.ok)(k:fit (4*x.m+10) N):∃ d:RatD,d.can x.q/\∀ K:LA->O R,JQ N x.av o K=K d.av:=by
 have Y:=k.1
 rcases Ip (R:=R) (N:=N) (o:=o) G (k.le (by omega))with⟨n,d,n1,n2,I,d2,e,hK⟩|hK
 ·obtain⟨c,c1,D⟩:=FR (R:=R) (N:=N) (s:=n) (b:=d) (by omega) I (by omega) (by omega)
  rw[e]at c1
  refine⟨c,c1,fun K=>?_⟩
  rw[QZ];unfold dB
  rw[Jb,ct,Eg,hK,ct,D];rfl
 ·obtain⟨neg,s,l,o1,o2,p1,p2,L,p4,p5,p6,T⟩:=Mw (R:=R) (N:=N) (o:=o) G (k.le (by omega))
  obtain⟨c,c1,D⟩:=DU (R:=R) (N:=N) (neg:=neg) (s:=s) (l:=l) (n:=l.length) (o:=o1) (t:=false) (o':=o2) rfl p1 p2 L (k.le (by omega))
  rw[p6]at c1
  refine⟨c,c1,fun K=>?_⟩
  rw[QZ];unfold dB
  rw[Jb,ct,Eg,hK,cf,ct,T,D];rfl
def HR(x y:Rat):Int:=if x<y then -1 else if y<x then 1 else 0
def Aks{d:Nat}(h:0<d):(0:Rat)<(d:Rat):=A74.2 h
def Akt{a c:Int}{b d:Nat}(k:0<b)(D:0<d):mkRat a b<mkRat c d↔a*d<c*b:=by
 rw[A7s,A7s,Rat.div_lt_iff (Aks k)]
 have e:(c:Rat)/(d:Rat)*(b:Rat)=(c*b:Rat)/(d:Rat):=by rw[A6r,A6r,A9o,A9o,Rat.mul_comm (d:Rat)⁻¹]
 rw[e,Rat.lt_div_iff (Aks D)]
 have e1:(a:Rat)*(d:Rat)=((a*d:Int):Rat):=by rw[A73];rfl
 have G:(c:Rat)*(b:Rat)=((c*b:Int):Rat):=by rw[A73];rfl
 rw[e1,G,A6f]
def Aku{a c:Int}{b d:Nat}(k:0<b)(D:0<d):HR (mkRat a b) (mkRat c d)=fB (a*d) (c*b):=by
 unfold HR fB
 by_cases h:a*d<c*b
 ·rw[if_pos h,if_pos ((Akt k D).2 h)]
 ·rw[if_neg h,if_neg (fun hh=>h ((Akt k D).1 hh))]
  by_cases G:c*b<a*d
  ·rw[if_pos G,if_pos ((Akt D k).2 G)]
  ·rw[if_neg G,if_neg (fun hh=>G ((Akt D k).1 hh))]
def Ae2{N:Nat}{a b:Int}{K:Int->O R}:Pb N a b K=K (fB a b):=by
 rw[W6];unfold T0
 simp only[Rh];unfold Rg
 rw[show(a != a)=false by simp,show(b != b)=false by simp]
 dsimp only
 rw[cf,cf]
 unfold fB
 by_cases h:a<b
 ·rw[decide_eq_true h,ct,if_pos h]
 ·rw[decide_eq_false h,cf,if_neg h]
  by_cases k:b<a
  ·rw[decide_eq_true (show a>b from k),ct,if_pos k]
  ·rw[decide_eq_false (show ¬ a>b from k),cf,if_neg k]
def wM{N:Nat}{a b:Int}{K:Int->O R}:Lx N a b K=K (fB a b):=by
 rw[S6];unfold Pw
 simp only[W7];unfold T1
 rw[show(a != a)=false by simp,show(b != b)=false by simp]
 dsimp only
 rw[cf,cf]
 unfold fB
 by_cases h:a<b
 ·rw[decide_eq_true h,ct,if_pos h]
 ·rw[decide_eq_false h,cf,if_neg h]
  by_cases k:b<a
  ·rw[decide_eq_true (show a>b from k),ct,if_pos k]
  ·rw[decide_eq_false (show ¬ a>b from k),cf,if_neg k]
def Aqq{p q:Rat}(h:p.num.sign<q.num.sign):p<q:=by
 rw[Rat.lt_iff]
 have G:=p.den_pos;have hq:=q.den_pos
 rcases A6k p.num 0 with k|k|k
 ·rcases Int.lt_or_le q.num 0 with D|D
  ·rw[A3u k,A3u D]at h;omega
  ·have x1:p.num*q.den<0:=Int.mul_neg_of_neg_of_pos k (by omega)
   have x2:0<=q.num*p.den:=A8b D (by omega)
   omega
 ·rw[k]at h ⊢
  have:0<q.num:=by simpa using h
  have x2:0<q.num*p.den:=Int.mul_pos this (by omega)
  rw[Int.zero_mul];exact x2
 ·rw[A4j k]at h
  have:=Int.sign_trichotomy q.num
  omega
def LL{a b:Int}(D:-2147483648<a/\a<2147483648)(G:-2147483648<b/\b<2147483648):-4611686018427387904<a*b/\a*b<4611686018427387904:=by
 have k:a.natAbs*b.natAbs<=2147483647*2147483647:=A46 (by omega) (by omega)
 rw[<-A5c]at k
 omega
def XX{N:Nat}{x y:RatD}{o o':Bool}{K:Int->O R}(hx:x.ok)(L:y.ok)(k:fit (4*(x.m+y.m)+10) N):Ih N x.av o y.av o' K=K (HR x.q y.q):=by
 have h1:=k.1
 rw[RA];unfold CV
 rw[Jb,ct,Eg,Io hx (k.le (by omega)),Jb,ct,Eg,Io L (k.le (by omega))]
 by_cases hs:x.q.num.sign=y.q.num.sign
 ·rw[show(x.q.num.sign != y.q.num.sign)=false by simp[hs],cf,ct]
  have gen:O4 N K o x.av o' y.av=K (HR x.q y.q):=by
   obtain⟨n1,s1,l1,a1,T,p1,p2,p3,p4,p5,p6,p7⟩:=Mw (R:=R) (N:=N) (o:=o) hx (k.le (by omega))
   obtain⟨n2,s2,l2,a2,Y,q1,q2,q3,q4,q5,q6,q7⟩:=Mw (R:=R) (N:=N) (o:=o') L (k.le (by omega))
   obtain⟨S1,t1,t2,t3⟩:=HQ (R:=R) (N:=N) (n1:=n1) (n2:=false) (s1:=s1) (s2:=.of l2 false Y) (o1:=a1) (o2:=(Y||false)) p1 q2 (k.le (show s1.l.length+l2.length<=_ by omega))
   obtain⟨S2,u1,u2,u3⟩:=HQ (R:=R) (N:=N) (n1:=n2) (n2:=false) (s1:=s2) (s2:=.of l1 false T) (o1:=a2) (o2:=(T||false)) q1 p2 (k.le (show s2.l.length+l1.length<=_ by omega))
   have v1:Au false (.of l2 false Y)=(val l2:Int):=rfl
   have v2:Au false (.of l1 false T)=(val l1:Int):=rfl
   rw[v1]at t2 t3;rw[v2]at u2 u3
   have l1':(Ak (Au n1 s1*(val l2:Int)).natAbs).length<=x.m+max y.m 1:=A4f (C7 (by
    rw[A5c,Cz,A3c,A32]
    exact A33 (A3e (Bi p1) (A3t (by omega) p4)) (A3e (Bi q2) (A3t (by omega) q5)))) (A2s _)
   have l2':(Ak (Au n2 s2*(val l1:Int)).natAbs).length<=y.m+max x.m 1:=A4f (C7 (by
    rw[A5c,Cz,A3c,A32]
    exact A33 (A3e (Bi q1) (A3t (by omega) q4)) (A3e (Bi p2) (A3t (by omega) p5)))) (A2s _)
   unfold O4
   rw[Jb,ct,Eg,p7,XW,ct,Jb,ct,Eg,q7,XW,ct,aG,ct,vu,Anq,t3,aG,ct,vu,Anq,u3,Ep t1 t2,Ep u1 u2,Anq,Anq,wK (s1:=.of (Ak (Au n1 s1*(val l2:Int)).natAbs) false true) (s2:=.of (Ak (Au n2 s2*(val l1:Int)).natAbs) false true) (Ac _) (Ac _) (k.le (show(Ak (Au n1 s1*(val l2:Int)).natAbs).length+(Ak (Au n2 s2*(val l1:Int)).natAbs).length<=_ by omega)),Iz,Iz,<-p6,<-q6,Aku (by omega) (by omega)]
  rcases Ip (R:=R) (N:=N) (o:=o) hx (k.le (by omega))with⟨n,d,n1,n2,d1,d2,e,hK⟩|hK
  ·rcases Ip (R:=R) (N:=N) (o:=o') L (k.le (by omega))with⟨n',d',D,G,I,d2',e',hK'⟩|hK'
   ·have T:=LL (a:=n) (b:=(d':Int)) ⟨n1,n2⟩ (by omega)
    have Y:=LL (a:=n') (b:=(d:Int)) ⟨D,G⟩ (by omega)
    rw[hK,ct,hK',show((true:Bool)==true)=true by rfl,ct,Ady,ct,wM,i64 (by omega),i64 (by omega),<-e,<-e',Aku d1 I]
   ·rw[hK,ct,hK',show((true:Bool)==true)=true by rfl,ct,Ady,cf,gen]
  ·rcases Ip (R:=R) (N:=N) (o:=o') L (k.le (by omega))with⟨n',d',D,G,I,d2',e',hK'⟩|hK'
   ·rw[hK,ct,hK',show((false:Bool)==true)=false by rfl,cf,gen]
   ·rw[hK,ct,hK',show((false:Bool)==true)=false by rfl,cf,gen]
 ·rw[show(x.q.num.sign != y.q.num.sign)=true by simp[hs],ct,Ae2]
  congr 1
  unfold fB HR
  by_cases h:x.q.num.sign<y.q.num.sign
  ·rw[if_pos h,if_pos (Aqq h)]
  ·have h2:y.q.num.sign<x.q.num.sign:=by omega
   have:=Aqq h2
   rw[if_neg h,if_pos h2,if_neg (fun hh=>absurd (A7e this) (A8d.2 hh)),if_pos this]
def Ae3{q:Rat}(h:q.num.sign=0):q=0:=A6h.1 (A6s.1 h)
def Jc{a b:Int}{k l:Nat}(D:a.natAbs<4294967296 ^ k)(G:b.natAbs<4294967296 ^ l):(a*b).natAbs<4294967296 ^ (k+l):=by rw[A5c,A32];exact A33 D G
def fC{a b:Int}{k:Nat}(D:a.natAbs<4294967296 ^ k)(G:b.natAbs<4294967296 ^ k):(a+b).natAbs<4294967296 ^ (k+1):=by rw[A25];omega
def Hb{k l:Nat}(h:k<=l):4294967296 ^ k<=4294967296 ^ l:=A3t (by omega) h
def Aqr{v k:Nat}(h:(Ak v).length<=k):v<4294967296 ^ k:=by
 have:=Bi (Ac v);rw[Ae]at this
 exact A3e this (Hb h)
def Ae4(p r:Int)(d:Nat)(k:d≠0):mkRat (p+r) d=mkRat p d+mkRat r d:=by
 rw[A77 _ _ k k,<-Int.add_mul]
 exact(Rat.mkRat_mul_right k).symm
def Atj{N:Nat}{x y:RatD}{o o':Bool}(hx:x.ok)(hy:y.ok)(D:fit (8*(x.m+y.m)+40) N):∃ d:RatD,d.can (x.q+y.q)/\∀ K:LA->O R,GZ N K o x.av o' y.av=K d.av:=by
 obtain⟨n1,s1,l1,a1,G,p1,p2,L,p4,p5,p6,p7⟩:=Mw (R:=R) (N:=N) (o:=o) hx (D.le (by omega))
 obtain⟨n2,s2,l2,a2,T,Y,I,q3,q4,q5,q6,q7⟩:=Mw (R:=R) (N:=N) (o:=o') hy (D.le (by omega))
 have zl1:(Au n1 s1).natAbs<4294967296 ^ x.m:=by rw[Cz];exact A3e (Bi p1) (Hb p4)
 have zl2:(Au n2 s2).natAbs<4294967296 ^ y.m:=by rw[Cz];exact A3e (Bi Y) (Hb q4)
 have dl1:((val l1:Nat):Int).natAbs<4294967296 ^ (x.m+1):=by rw[A3c];exact A3e (Bi p2) (Hb (by omega))
 have Axo:((val l2:Nat):Int).natAbs<4294967296 ^ (y.m+1):=by rw[A3c];exact A3e (Bi I) (Hb (by omega))
 by_cases he:val l1=val l2
 ·obtain⟨S,t1,t2,t3⟩:=yH (R:=R) (N:=N) (n1:=n1) (n2:=n2) (s1:=s1) (s2:=s2) (o1:=a1) (o2:=a2) p1 Y (D.le (by omega))
  have lz:(Ak (Au n1 s1+Au n2 s2).natAbs).length<=x.m+y.m+1:=C7 (fC (k:=x.m+y.m) (A3e zl1 (Hb (by omega))) (A3e zl2 (Hb (by omega))))
  obtain⟨c,c1,c2⟩:=DU (R:=R) (N:=N) (neg:=decide (Au n1 s1+Au n2 s2<0)) (s:=.of (Ak (Au n1 s1+Au n2 s2).natAbs) false true) (l:=l1) (n:=l1.length) (o:=true) (t:=false) (o':=G) rfl (Ac _) p2 L (D.le (show 2*((Ak (Au n1 s1+Au n2 s2).natAbs).length+l1.length)+8<=_ by omega))
  rw[Iz,Ae4 _ _ _ L,p6]at c1
  rw[show mkRat (Au n2 s2) (val l1)=y.q by rw[he,q6]]at c1
  refine⟨c,c1,fun K=>?_⟩
  unfold GZ
  rw[Jb,ct,Eg,p7,XW,ct,Jb,ct,Eg,q7,XW,ct,Qo rfl rfl p2 I (D.le (by omega)),he,Y5,show((0:Int)==0)=true by rfl,ct,aG,ct,aG,ct,vu,vu,t3,Ep t1 t2,Anq,c2];rfl
 ·obtain⟨S1,t1,t2,t3⟩:=HQ (R:=R) (N:=N) (n1:=n1) (n2:=false) (s1:=s1) (s2:=.of l2 false T) (o1:=a1) (o2:=(T||false)) p1 I (D.le (show s1.l.length+l2.length<=_ by omega))
  obtain⟨S2,u1,u2,u3⟩:=HQ (R:=R) (N:=N) (n1:=n2) (n2:=false) (s1:=s2) (s2:=.of l1 false G) (o1:=a2) (o2:=(G||false)) Y p2 (D.le (show s2.l.length+l1.length<=_ by omega))
  rw[show Au false (.of l2 false T)=(val l2:Int) by rfl]at t2 t3
  rw[show Au false (.of l1 false G)=(val l1:Int) by rfl]at u2 u3
  have z1:=Jc zl1 Axo
  have z2:=Jc zl2 dl1
  have L1:=C7 z1
  have L2:=C7 z2
  obtain⟨S3,w1,w2,w3⟩:=yH (R:=R) (N:=N) (n1:=decide (Au n1 s1*(val l2:Int)<0)) (n2:=decide (Au n2 s2*(val l1:Int)<0)) (s1:=.of (Ak (Au n1 s1*(val l2:Int)).natAbs) false true) (s2:=.of (Ak (Au n2 s2*(val l1:Int)).natAbs) false true) (o1:=true) (o2:=true) (Ac _) (Ac _) (D.le (show(Ak (Au n1 s1*(val l2:Int)).natAbs).length+(Ak (Au n2 s2*(val l1:Int)).natAbs).length+1<=_ by omega))
  rw[Iz,Iz]at w2 w3
  obtain⟨S4,v1,v2,v3⟩:=RV (R:=R) (N:=N) (a:=l1) (b:=l2) (t:=false) (o:=G) (t':=false) (o':=T) rfl rfl p2 I (D.le (by omega))
  have z3:=fC (k:=x.m+y.m+1) (A3e z1 (Hb (by omega))) (A3e z2 (Hb (by omega)))
  have L3:=C7 z3
  have z4:val l1*val l2<4294967296 ^ (x.m+1+(y.m+1)):=by
   have:=Jc dl1 Axo;rw[A5c,A3c,A3c]at this;exact this
  have L4:=C7 z4
  obtain⟨c,c1,c2⟩:=DU (R:=R) (N:=N) (neg:=decide (Au n1 s1*(val l2:Int)+Au n2 s2*(val l1:Int)<0)) (s:=.of (Ak (Au n1 s1*(val l2:Int)+Au n2 s2*(val l1:Int)).natAbs) false true) (l:=Ak (val l1*val l2)) (n:=(Ak (val l1*val l2)).length) (o:=true) (t:=false) (o':=true) rfl (Ac _) (Ac _) (by rw[Ae];exact A70 L q3) (D.le (show 2*((Ak (Au n1 s1*(val l2:Int)+Au n2 s2*(val l1:Int)).natAbs).length+(Ak (val l1*val l2)).length)+8<=_ by omega))
  rw[Iz,Ae,<-A77 _ _ L q3,p6,q6]at c1
  refine⟨c,c1,fun K=>?_⟩
  unfold GZ
  have hc:(Hj (val l1) (val l2)==0)=false:=by
   rw[beq_eq_false_iff_ne];unfold Hj;split
   ·omega
   ·rw[if_pos (by omega)];omega
  rw[Jb,ct,Eg,p7,XW,ct,Jb,ct,Eg,q7,XW,ct,Qo rfl rfl p2 I (D.le (by omega)),hc,cf,aG,ct,vu,Anq,t3,aG,ct,vu,Anq,u3,Ep t1 t2,Ep u1 u2,Anq,Anq,w3,v3,Ep w1 w2,Ep v1 v2,Anq,c2];rfl
def yJ{N:Nat}{x y:RatD}{o o':Bool}(G:x.ok)(I:y.ok)(k:fit (8*(x.m+y.m)+40) N):∃ d:RatD,d.can (x.q+y.q)/\∀ K:LA->O R,Pv N x.av o y.av o' K=K d.av:=by
 have h1:=k.1
 by_cases hz:x.q.num.sign=0
 ·obtain⟨c,c1,D⟩:=LK (R:=R) (N:=N) (o:=o') I (k.le (by omega))
  refine⟨c,by rw[Ae3 hz,A79];exact c1,fun K=>?_⟩
  rw[JU];unfold UV
  rw[Jb,ct,Eg,Io G (k.le (by omega)),hz,show((0:Int)==0)=true by rfl,ct,Jb,ct,Eg,D];rfl
 ·have L:(x.q.num.sign==0)=false:=by rw[beq_eq_false_iff_ne];exact hz
  by_cases hw:y.q.num.sign=0
  ·obtain⟨c,c1,D⟩:=LK (R:=R) (N:=N) (o:=o) G (k.le (by omega))
   refine⟨c,by rw[Ae3 hw,A6e];exact c1,fun K=>?_⟩
   rw[JU];unfold UV
   rw[Jb,ct,Eg,Io G (k.le (by omega)),L,cf,Jb,ct,Eg,Io I (k.le (by omega)),hw,show((0:Int)==0)=true by rfl,ct,ct,D];rfl
  ·have hwb:(y.q.num.sign==0)=false:=by rw[beq_eq_false_iff_ne];exact hw
   have start:∀ K:LA->O R,Pv N x.av o y.av o' K=G5 N x.av o (fun g e aw=>G5 N y.av o' fun i f ax=>cond (aw==true) (Qk N K g e i f o x.av o' y.av (cond true ax false)) (Qk N K g e i f o x.av o' y.av false)):=by
    intro K
    rw[JU];unfold UV
    rw[Jb,ct,Eg,Io G (k.le (by omega)),L,cf,Jb,ct,Eg,Io I (k.le (by omega)),hwb,cf,ct];rfl
   have gen:∃ d:RatD,d.can (x.q+y.q)/\∀(K:LA->O R)(g e i f:Int),Qk N K g e i f o x.av o' y.av false=K d.av:=by
    obtain⟨c,c1,D⟩:=Atj (R:=R) (N:=N) (o:=o) (o':=o') G I k
    exact⟨c,c1,fun K g e i f=>by unfold Qk JT;rw[cf,D]⟩
   rcases Ip (R:=R) (N:=N) (o:=o) G (k.le (by omega))with⟨n,d,n1,n2,d1,d2,e,hK⟩|hK
   ·rcases Ip (R:=R) (N:=N) (o:=o') I (k.le (by omega))with⟨n',d',T,Y,d1',d2',e',hK'⟩|hK'
    ·have b1:=LL (a:=n) (b:=(d':Int)) ⟨n1,n2⟩ (by omega)
     have b2:=LL (a:=n') (b:=(d:Int)) ⟨T,Y⟩ (by omega)
     have b3:=LL (a:=(d:Int)) (b:=(d':Int)) (by omega) (by omega)
     have b4:((d*d':Nat):Int)=(d:Int)*(d':Int):=by simp
     obtain⟨c,c1,D⟩:=FR (R:=R) (N:=N) (s:=n*d'+n'*d) (b:=d*d') (by omega) (A8i d1 d1') (by omega) (by omega)
     rw[<-A77 _ _ (by omega) (by omega),e,e']at c1
     refine⟨c,c1,fun K=>?_⟩
     rw[start,hK,hK',show((true:Bool)==true)=true by rfl,ct,Ady]
     unfold Qk JT
     rw[ct,i64 (a:=n*(d':Int)) (by omega),i64 (a:=n'*(d:Int)) (by omega),i64 (by omega),i64 (by omega),<-b4,D];rfl
    ·obtain⟨c,c1,D⟩:=gen
     refine⟨c,c1,fun K=>?_⟩
     rw[start,hK,hK',show((true:Bool)==true)=true by rfl,ct,Ady,D]
   ·obtain⟨c,c1,D⟩:=gen
    refine⟨c,c1,fun K=>?_⟩
    rw[start,hK]
    rcases Ip (R:=R) (N:=N) (o:=o') I (k.le (by omega))with⟨n',d',T,Y,d1',d2',e',hK'⟩|hK'
    ·rw[hK',show((false:Bool)==true)=false by rfl,cf,D]
    ·rw[hK',show((false:Bool)==true)=false by rfl,cf,D]
def Ae5(n:Bool)(s:LS):Au (!n) s=-Au n s:=by unfold Au;cases n<;>simp
def yK{N:Nat}{x y:RatD}{o o':Bool}(k:x.ok)(D:y.ok)(G:fit (8*(x.m+y.m)+40) N):∃ d:RatD,d.can (x.q - y.q)/\∀ K:LA->O R,Wn N x.av o y.av o' K=K d.av:=by
 obtain⟨c,c1,I⟩:=yJ (R:=R) (N:=N) (x:=⟨x.neg,.of x.ns.l false o,.of x.ds.l false o⟩) (y:=⟨!y.neg,.of y.ns.l false o',.of y.ds.l false o'⟩) (o:=(o||(o||false))) (o':=(o'||(o'||false))) k D G
 have e1:RatD.q ⟨x.neg,.of x.ns.l false o,.of x.ds.l false o⟩=x.q:=rfl
 have L:RatD.q ⟨!y.neg,.of y.ns.l false o',.of y.ds.l false o'⟩=-y.q:=by
  show mkRat (Au (!y.neg) (.of y.ns.l false o')) (val y.ds.l)=_
  rw[Ae5,<-Rat.neg_mkRat];rfl
 rw[e1,L,<-A6g]at c1
 refine⟨c,c1,fun K=>?_⟩
 rw[ra];unfold Aaa
 rw[Av7,Aim,kB,Ayc,ct,Av7,Aim,kB,Ayc,ct]
 exact(I _).trans rfl
def Atk{N:Nat}{x y:RatD}{o o':Bool}(I:x.ok)(L:y.ok)(k:fit (8*(x.m+y.m)+40) N):∃ d:RatD,d.can (x.q*y.q)/\∀ K:LA->O R,GW N K o x.av o' y.av=K d.av:=by
 obtain⟨n1,s1,l1,a1,T,p1,p2,Y,p4,p5,p6,p7⟩:=Mw (R:=R) (N:=N) (o:=o) I (k.le (by omega))
 obtain⟨n2,s2,l2,a2,b2,D,G,q3,q4,q5,q6,q7⟩:=Mw (R:=R) (N:=N) (o:=o') L (k.le (by omega))
 have zl1:(Au n1 s1).natAbs<4294967296 ^ x.m:=by rw[Cz];exact A3e (Bi p1) (Hb p4)
 have zl2:(Au n2 s2).natAbs<4294967296 ^ y.m:=by rw[Cz];exact A3e (Bi D) (Hb q4)
 have dl1:((val l1:Nat):Int).natAbs<4294967296 ^ (x.m+1):=by rw[A3c];exact A3e (Bi p2) (Hb (by omega))
 have Axo:((val l2:Nat):Int).natAbs<4294967296 ^ (y.m+1):=by rw[A3c];exact A3e (Bi G) (Hb (by omega))
 obtain⟨S1,t1,t2,t3⟩:=HQ (R:=R) (N:=N) (n1:=n1) (n2:=n2) (s1:=s1) (s2:=s2) (o1:=a1) (o2:=a2) p1 D (k.le (by omega))
 have L1:=C7 (Jc zl1 zl2)
 obtain⟨S4,v1,v2,v3⟩:=RV (R:=R) (N:=N) (a:=l1) (b:=l2) (t:=false) (o:=T) (t':=false) (o':=b2) rfl rfl p2 G (k.le (by omega))
 have z4:val l1*val l2<4294967296 ^ (x.m+1+(y.m+1)):=by
  have:=Jc dl1 Axo;rw[A5c,A3c,A3c]at this;exact this
 have L4:=C7 z4
 obtain⟨c,c1,c2⟩:=DU (R:=R) (N:=N) (neg:=decide (Au n1 s1*Au n2 s2<0)) (s:=.of (Ak (Au n1 s1*Au n2 s2).natAbs) false true) (l:=Ak (val l1*val l2)) (n:=(Ak (val l1*val l2)).length) (o:=true) (t:=false) (o':=true) rfl (Ac _) (Ac _) (by rw[Ae];exact A70 Y q3) (k.le (show 2*((Ak (Au n1 s1*Au n2 s2).natAbs).length+(Ak (val l1*val l2)).length)+8<=_ by omega))
 rw[Iz,Ae,<-A9k,p6,q6]at c1
 refine⟨c,c1,fun K=>?_⟩
 unfold GW
 rw[Jb,ct,Eg,p7,XW,ct,Jb,ct,Eg,q7,XW,ct,aG,ct,aG,ct,vu,vu,t3,v3,Ep t1 t2,Ep v1 v2,Anq,c2];rfl
def kC{N:Nat}{x y:RatD}{o o':Bool}(hx:x.ok)(L:y.ok)(k:fit (8*(x.m+y.m)+40) N):∃ d:RatD,d.can (x.q*y.q)/\∀ K:LA->O R,Oj N x.av o y.av o' K=K d.av:=by
 have h1:=k.1
 obtain⟨g,g1,T⟩:=Atk (R:=R) (N:=N) (o:=o) (o':=o') hx L k
 rcases Ip (R:=R) (N:=N) (o:=o) hx (k.le (by omega))with⟨n,d,n1,n2,d1,d2,e,hK⟩|hK
 ·rcases Ip (R:=R) (N:=N) (o:=o') L (k.le (by omega))with⟨n',d',D,G,I,Y,e',hK'⟩|hK'
  ·have b1:=LL (a:=n) (b:=n') ⟨n1,n2⟩ ⟨D,G⟩
   have b3:=LL (a:=(d:Int)) (b:=(d':Int)) (by omega) (by omega)
   have b4:((d*d':Nat):Int)=(d:Int)*(d':Int):=by simp
   obtain⟨c,c1,c2⟩:=FR (R:=R) (N:=N) (s:=n*n') (b:=d*d') (by omega) (A8i d1 I) (by omega) (by omega)
   rw[<-A9k,e,e']at c1
   refine⟨c,c1,fun K=>?_⟩
   rw[JP];unfold UT
   rw[Jb,ct,Eg,hK,Jb,ct,Eg,hK',show((true:Bool)==true)=true by rfl,ct,Ady,ct,i64 (by omega),i64 (by omega),<-b4,c2];rfl
  ·refine⟨g,g1,fun K=>?_⟩
   rw[JP];unfold UT
   rw[Jb,ct,Eg,hK,Jb,ct,Eg,hK',show((true:Bool)==true)=true by rfl,ct,Ady,cf,T]
 ·refine⟨g,g1,fun K=>?_⟩
  rw[JP];unfold UT
  rcases Ip (R:=R) (N:=N) (o:=o') L (k.le (by omega))with⟨n',d',D,G,I,Y,e',hK'⟩|hK'
  ·rw[Jb,ct,Eg,hK,Jb,ct,Eg,hK',show((false:Bool)==true)=false by rfl,cf,T]
  ·rw[Jb,ct,Eg,hK,Jb,ct,Eg,hK',show((false:Bool)==true)=false by rfl,cf,T]
def pZ{a b:Rat}:HR a b<=0↔a<=b:=by
 unfold HR
 by_cases h:a<b
 ·rw[if_pos h];exact⟨fun _=>A7e h,fun _=>by omega⟩
 ·rw[if_neg h]
  by_cases k:b<a
  ·rw[if_pos k];exact⟨fun hh=>by omega,fun hh=>absurd hh (A8d.2 k)⟩
  ·rw[if_neg k];exact⟨fun _=>A81.1 k,fun _=>by omega⟩
def Gg(z:Int):LA:=Jr (decide (z<0)) (.of (Ak z.natAbs) false false)
def fD(z:Int)(K:LA->O R):(cond ((beq 0 0)&&((beq (List.length (Gg z)) 2)&&(beq 2 2))) (cond (ble 2 (List.length (Gg z))) (K (take 2 (Gg z))) none) none)=K (Gg z):=rfl
def A12(z:Int):take 2 (Gg z)=Gg z:=rfl
def Az3(z:Int):beq (List.length (Gg z)) 2=true:=rfl
def Ast(v:Nat):take ((Ak v).length*1) (Ad (Ak v))=Ad (Ak v):=Ep (Ac _) (Ae v)
def Hc{N:Nat}{neg:Bool}{l:List Nat}{n:Nat}{t o:Bool}{K:LA->O R}(k:n=l.length)(D:Af l)(G:fit l.length N):G7 N neg (Ad l) n t o K=K (Gg (if neg then -(val l:Int)else(val l:Int))):=by
 obtain⟨c1,I⟩:=Y7 (z:=if neg then -(val l:Int)else(val l:Int)) (c:=neg) (m:=val l) rfl
 rw[dH];unfold jH
 rw[Dm k D G,Ast]
 unfold Gg
 rw[<-c1,I]
 cases neg
 ·rfl
 ·rw[show((true:Bool)==true)=true by rfl,ct,Ady];simp[Jr,LS.av]
def XY{N:Nat}{v:Int}{K:LA->O R}(D:-9223372036854775808<=v/\v<=9223372036854775807)(hN:2000<=N):Mu N v K=K (Gg v):=by
 have k:v.natAbs<18446744073709551616:=by omega
 have G:=KZ k
 rw[N_];unfold LD
 by_cases h:v<0
 ·have e:wrap .u64 (wrap .u64 (wrap .i64 ((0:Int) - wrap .i64 (v+1)))+1)=(v.natAbs:Int):=by
   rw[i64 (a:=v+1) (by omega),i64 (by omega),YX,YX];omega
  rw[decide_eq_true h,ct,e,DT k (by omega),Ast,Hc rfl (Ac _) ⟨by omega,by omega⟩,Ae]
  have:(if true=true then -(v.natAbs:Int)else(v.natAbs:Int))=v:=by rw[if_pos rfl];omega
  rw[this];exact fD _ _
 ·have e:wrap .u64 v=(v.natAbs:Int):=by rw[YX];omega
  rw[decide_eq_false h,cf,e,DT k (by omega),Ast,Hc rfl (Ac _) ⟨by omega,by omega⟩,Ae]
  have:(if false=true then -(v.natAbs:Int)else(v.natAbs:Int))=v:=by rw[if_neg (by decide)];omega
  rw[this];exact fD _ _
def aH{N:Nat}{n:Bool}{s:LS}{o:Bool}{K:LA->O R}(hs:Af s.l)(k:fit s.l.length N):HB N (Jr n s) o K=K (Gg (Au n s)):=by
 rw[dI];unfold jI
 rw[Rx,Ol,Hc rfl hs k];exact fD _ _
def tW{N:Nat}{n:Bool}{s:LS}{o:Bool}{K:Int->O R}(hs:Af s.l)(k:fit s.l.length N):HC N (Jr n s) o K=K (Au n s).sign:=by
 rw[dJ];unfold jJ
 rw[aG,ct,vu,aH hs k,Az3,show(true&&(true&&(!false)))=true by rfl,ct]
 have e:setCells (Jr n s) 0 (Gg (Au n s))=Gg (Au n s):=rfl
 rw[e]
 generalize Au n s=z
 unfold Gg
 rw[Rx]
 rcases A6k z 0 with h|h|h
 ·rw[decide_eq_true h,ct,A3u h]
 ·subst h;rfl
 ·rw[decide_eq_false (by omega),cf,Ol]
  have:(Ak z.natAbs).length≠0:=fun hh=>by have:=Br.1 hh;omega
  simp only[LS.l]
  rw[vr this,cf,A4j h]
def Anr{N:Nat}{n:Bool}{s:LS}{o:Bool}{K:LA->O R}(hs:Af s.l)(k:fit s.l.length N):DN N (Jr n s) o K=K (Gg (-Au n s)):=by
 rw[m_];unfold tG
 rw[Rx,Ol,Hc rfl hs k,<-Ae5];exact fD _ _
def Ain{N:Nat}{n1 n2:Bool}{s1 s2:LS}{o1 o2:Bool}{K:LA->O R}(k:Af s1.l)(D:Af s2.l)(G:fit (s1.l.length+s2.l.length) N):Yi N (Jr n1 s1) o1 (Jr n2 s2) o2 K=K (Gg (Au n1 s1*Au n2 s2)):=by
 have I:(Ak (val s1.l*val s2.l)).length<=s1.l.length+s2.l.length:=C7 (by rw[A32];exact A33 (Bi k) (Bi D))
 rw[nE];unfold tN
 rw[Rx,Rx,Ol,Ol,Anl rfl rfl k D G,Ast,Hc rfl (Ac _) (G.le I),Ae]
 have L:Au n1 s1*Au n2 s2=if (!(n1==n2))then -((val s1.l*val s2.l:Nat):Int)else((val s1.l*val s2.l:Nat):Int):=by
  unfold Au;cases n1<;>cases n2<;>simp[A93,Int.neg_mul]
 rw[<-L];exact fD _ _
def Aio{N:Nat}{n1 n2:Bool}{s1 s2:LS}{o1 o2:Bool}{K:LA->O R}(L:Af s1.l)(T:Af s2.l)(k:fit (s1.l.length+s2.l.length+1) N):DM N (Jr n1 s1) o1 (Jr n2 s2) o2 K=K (Gg (Au n1 s1+Au n2 s2)):=by
 have v1:=Bi L
 have v2:=Bi T
 have w1:=Hb (show s1.l.length<=s1.l.length+s2.l.length by omega)
 have w2:=Hb (show s2.l.length<=s1.l.length+s2.l.length by omega)
 rw[m9];unfold tF
 rw[Rx,Rx]
 by_cases Y:n1=n2
 ·subst Y
  have D:(Ak (val s1.l+val s2.l)).length<=s1.l.length+s2.l.length+1:=C7 (by rw[A25];omega)
  have G:Au n1 s1+Au n1 s2=if n1 then -((val s1.l+val s2.l:Nat):Int)else((val s1.l+val s2.l:Nat):Int):=by
   unfold Au;cases n1<;>simp;omega
  rw[show(n1==n1)=true by simp,ct,Rx,Ol,Ol,j8 rfl rfl L T k,Ast,Hc rfl (Ac _) (k.le D),Ae,<-G];exact fD _ _
 ·rw[show(n1==n2)=false by simp[Y],cf,Ol,Ol,j9 rfl rfl L T (k.le (by omega))]
  by_cases I:val s2.l<=val s1.l
  ·have D:(Ak (val s1.l - val s2.l)).length<=s1.l.length+s2.l.length+1:=C7 (by rw[A25];omega)
   have G:Au n1 s1+Au n2 s2=if n1 then -((val s1.l - val s2.l:Nat):Int)else((val s1.l - val s2.l:Nat):Int):=by
    unfold Au;cases n1<;>cases n2<;>simp at Y ⊢<;>omega
   rw[if_pos I,ct,Rx,Ast,Hc rfl (Ac _) (k.le D),Ae,<-G];exact fD _ _
  ·have D:(Ak (val s2.l - val s1.l)).length<=s1.l.length+s2.l.length+1:=C7 (by rw[A25];omega)
   have G:Au n1 s1+Au n2 s2=if n2 then -((val s2.l - val s1.l:Nat):Int)else((val s2.l - val s1.l:Nat):Int):=by
    unfold Au;cases n1<;>cases n2<;>simp at Y ⊢<;>omega
   rw[if_neg I,cf,Ol,Ol,j9 rfl rfl T L (k.le (by omega)),if_pos (by omega),Rx,Ast,Hc rfl (Ac _) (k.le D),Ae,<-G];exact fD _ _
def Ans{N:Nat}{n1 n2:Bool}{s1 s2:LS}{o1 o2:Bool}{K:LA->O R}(k:Af s1.l)(D:Af s2.l)(G:fit (3*(s1.l.length+s2.l.length)+4) N):pX N (Jr n1 s1) o1 (Jr n2 s2) o2 K=K (Gg ((Nat.gcd (Au n1 s1).natAbs (Au n2 s2).natAbs:Nat):Int)):=by
 have I:(Ak (Nat.gcd (val s1.l) (val s2.l))).length<=s1.l.length+s2.l.length:=by
  rcases A3j (val s1.l)with h|h
  ·rw[h,Nat.gcd_zero_left];have:=(Bm D).2;omega
  ·have:=By (Nat.gcd_le_left (val s2.l) h);have:=(Bm k).2;omega
 rw[m8];unfold tE
 rw[Ol,Ol,Ano rfl rfl k D G,Ast,Hc rfl (Ac _) (G.le (by omega)),Ae,Cz,Cz];exact fD _ _
def SC{N:Nat}{n1:Bool}{s1:LS}{g:Nat}{o1 o2:Bool}{K:LA->LA->Bool->O R}(D:Af s1.l)(I:0<g)(G:g∣val s1.l)(k:fit (s1.l.length+2*(Ak g).length+4) N):AK N (Jr n1 s1) o1 (Gg (g:Int)) o2 K=K (Gg (Au n1 s1/(g:Int))) (Gg 0) true:=by
 have hc:Gg (g:Int)=Jr false (.of (Ak g) false false):=by
  unfold Gg;rw[decide_eq_false (by omega),A3c]
 have hq:(Ak (val s1.l/g)).length<=s1.l.length:=A4f (By (A4t _ _)) (Bm D).2
 rw[hc,SB];unfold SA
 rw[Ol,Ol,show(LS.of (Ak g) false false).l=Ak g by rfl]
 rw[LJ rfl rfl D (Ac _) (by rw[Ae];omega) k,Ae,Nat.mod_eq_zero_of_dvd G,show(!true)=false by rfl,cf,Rx,Rx,Ast,Hc rfl (Ac _) (k.le (by omega)),Rx,Ast,Hc rfl (Ac _) (k.le (by simp[D6])),Ae,Ae]
 have L:(if n1=true then -((0:Nat):Int)else((0:Nat):Int))=0:=by cases n1<;>rfl
 have e1:(if (!(n1==false))=true then -((val s1.l/g:Nat):Int)else((val s1.l/g:Nat):Int))=Au n1 s1/(g:Int):=by
  obtain⟨c,hc⟩:=G
  have T:val s1.l/g=c:=by rw[hc,A8s _ I]
  rw[T];unfold Au;rw[hc]
  cases n1
  ·simp;rw[A53 _ (by omega)]
  ·simp only[Bool.true_beq,A6o,if_true]
   rw[show -((g*c:Nat):Int)=(g:Int)*(-(c:Int)) by rw[A93];simp,A53 _ (by omega)]
 rw[L,e1]
 generalize Au n1 s1/(g:Int)=q
 have r0:∀(f:Bool->O R),Wg (Gg 0) f=f false:=fun f=>Rx
 rw[show((beq 0 0)&&((beq (List.length (Gg q)) 2)&&(beq 2 2)))=true by rfl,ct,show((beq 0 0)&&((beq (List.length (Gg 0)) 2)&&(beq 2 2)))=true by rfl,ct,r0,cf]
 rfl
def bO(q:Rat):RatD:=⟨decide (q.num<0),.of (Ak q.num.natAbs) false false,.of (Ak q.den) false false⟩
def cq(q:Rat):LA:=(bO q).av
def p8(q:Rat):(bO q).can q:=⟨rfl,rfl,rfl⟩
def Aqs(q:Rat):(bO q).q=q:=(p8 q).q
def Aqt(q:Rat):(bO q).ok:=(p8 q).ok
def Aux(q:Rat):(bO q).m=qm q:=(p8 q).m
def fE(q:Rat)(K:LA->O R):(cond ((beq 0 0)&&((beq (List.length (cq q)) 3)&&(beq 3 3))) (cond (ble 3 (List.length (cq q))) (K (take 3 (cq q))) none) none)=K (cq q):=rfl
def yL(q:Rat):ble 2 (List.length (cq q))=true:=rfl
def kD(q:Rat):take 2 (cq q)=Gg q.num:=rfl
def Atl:cq 0=[.bool false,.imm [] 0 1 false false,.imm [.int .u32 1] 1 1 false false]:=by
 have e:cq 0=[.bool false,.imm (Ad (Ak 0)) (Ak 0).length 1 false false,.imm (Ad (Ak 1)) (Ak 1).length 1 false false]:=rfl
 rw[e,Yj];rfl
def aI{N:Nat}{K:LA->O R}:HD N K=K (cq 0):=by
 rw[dK];unfold jK
 rw[Atl]
def Az4{N:Nat}{z:Int}{o:Bool}{K:LA->O R}(k:fit (Ak z.natAbs).length N):DN N (Gg z) o K=K (Gg (-z)):=by
 have:=Anr (R:=R) (N:=N) (n:=decide (z<0)) (s:=.of (Ak z.natAbs) false false) (o:=o) (K:=K) (Ac _) k
 rw[Iz]at this;exact this
def Aye{N:Nat}{z:Int}{o:Bool}{K:Int->O R}(k:fit (Ak z.natAbs).length N):HC N (Gg z) o K=K z.sign:=by
 have:=tW (R:=R) (N:=N) (n:=decide (z<0)) (s:=.of (Ak z.natAbs) false false) (o:=o) (K:=K) (Ac _) k
 rw[Iz]at this;exact this
def Aqu{N:Nat}{z w:Int}{o o':Bool}{K:LA->O R}(k:fit ((Ak z.natAbs).length+(Ak w.natAbs).length) N):Yi N (Gg z) o (Gg w) o' K=K (Gg (z*w)):=by
 have:=Ain (R:=R) (N:=N) (n1:=decide (z<0)) (s1:=.of (Ak z.natAbs) false false) (n2:=decide (w<0)) (s2:=.of (Ak w.natAbs) false false) (o1:=o) (o2:=o') (K:=K) (Ac _) (Ac _) k
 rw[Iz,Iz]at this;exact this
def Az5{N:Nat}{z w:Int}{o o':Bool}{K:LA->O R}(k:fit ((Ak z.natAbs).length+(Ak w.natAbs).length+1) N):DM N (Gg z) o (Gg w) o' K=K (Gg (z+w)):=by
 have:=Aio (R:=R) (N:=N) (n1:=decide (z<0)) (s1:=.of (Ak z.natAbs) false false) (n2:=decide (w<0)) (s2:=.of (Ak w.natAbs) false false) (o1:=o) (o2:=o') (K:=K) (Ac _) (Ac _) k
 rw[Iz,Iz]at this;exact this
def Aqv(z:Int):mkRat z 1=(z:Rat):=by
 apply Rat.ext
 ·rw[A9p,if_neg (by decide),Nat.gcd_one_left];simp
 ·rw[A9n,if_neg (by decide),Nat.gcd_one_left];simp
def Atm(z:Int)(w:Nat)(k:w≠0):(mkRat z w).num=z/((Nat.gcd z.natAbs w:Nat):Int)/\(mkRat z w).den=w/Nat.gcd z.natAbs w:=by
 refine⟨?_,?_⟩
 ·rw[A9p,if_neg k,A4n w]
 ·rw[A9n,if_neg k,A4n w]
def nK{N:Nat}{n1 n2:Bool}{s1 s2:LS}{o1 o2:Bool}{K:LA->O R}(Y:Af s1.l)(I:Af s2.l)(hpos:0<=Au n2 s2)(D:fit (4*(s1.l.length+s2.l.length)+10) N):O6 N (Jr n1 s1) o1 (Jr n2 s2) o2 K=K (cq (mkRat (Au n1 s1) (Au n2 s2).natAbs)):=by
 have G:=Cz n2 s2
 have L:=Cz n1 s1
 rw[eO];unfold VD
 rw[aG,ct,vu,tW I (D.le (by omega))]
 by_cases h0:Au n2 s2=0
 ·rw[h0,show((0:Int).sign==0)=true by rfl,ct,aI]
  rw[show(0:Int).natAbs=0 by rfl,Rat.mkRat_zero];exact fE _ _
 ·have hw:(Au n2 s2).natAbs≠0:=by omega
  have hs1:((Au n2 s2).sign==0)=false:=by rw[A4j (by omega)];rfl
  rw[hs1,cf,ct,aH I (D.le (by omega)),show((beq 0 0)&&((beq (List.length (Gg (Au n2 s2))) 2)&&(beq 2 2)))=true by rfl,ct]
  have rb:∀(z:Int)(f:Bool->O R),Wg (Gg z) f=f (decide (z<0)):=fun z f=>Rx
  have rl:∀(z:Int)(f:LA->Nat->O R),Dd 1 (drop 1 (Gg z)) f=f (Ad (Ak z.natAbs)) (Ak z.natAbs).length:=fun z f=>Ol
  have l2:=(Bm I).2
  have l1:=(Bm Y).2
  rw[rb,decide_eq_false (by omega),show((!false)==true)=true by rfl,ct,rl,Aqp,Aql (a:=Ak (Au n2 s2).natAbs) (b:=[1]) (m:=1) rfl rfl (D.le (by rw[G];omega)),Ady]
  by_cases k:(Au n2 s2).natAbs=1
  ·rw[k,Yj,show decide (([1]:List Nat)=[1])=true by decide,ct,aG,ct,vu,aH Y (D.le (by omega)),rl,k,Yj]
   rw[Aqv]
   have e2:cq ((Au n1 s1:Int):Rat)=[.bool (decide (Au n1 s1<0)),.imm (Ad (Ak (Au n1 s1).natAbs)) (Ak (Au n1 s1).natAbs).length 1 false false,.imm (Ad [1]) 1 1 false false]:=by
    unfold cq bO RatD.av LS.av
    rw[Rat.num_intCast,Rat.den_intCast,Yj];rfl
   rw[e2];rfl
  ·have hne:decide (Ak (Au n2 s2).natAbs=[1])=false:=by
    rw[decide_eq_false_iff_not];intro hh
    have:=congrArg val hh
    rw[Ae]at this;simp[val]at this;omega
   rw[hne,cf]
   unfold DO
   have T:0<Nat.gcd (Au n1 s1).natAbs (Au n2 s2).natAbs:=A54 _ (by omega)
   have hgl:(Ak (Nat.gcd (Au n1 s1).natAbs (Au n2 s2).natAbs)).length<=s2.l.length:=A4f (By (Nat.gcd_le_right _ (by omega))) (by rw[G];exact l2)
   have hd1:Nat.gcd (Au n1 s1).natAbs (Au n2 s2).natAbs∣val s1.l:=by rw[<-L];exact A5j _ _
   have hd2:Nat.gcd (Au n1 s1).natAbs (Au n2 s2).natAbs∣val s2.l:=by rw[<-G];exact A6l _ _
   obtain⟨q1,q2⟩:=Atm (Au n1 s1) (Au n2 s2).natAbs hw
   rw[aG,ct,aG,ct,vu,vu,Ans Y I (D.le (by omega))]
   generalize hgd:Nat.gcd (Au n1 s1).natAbs (Au n2 s2).natAbs=g at *
   rw[show((beq 0 0)&&((beq (List.length (Gg (g:Int))) 2)&&(beq 2 2)))=true by rfl,ct,ct,show ble 2 (List.length (Gg (g:Int)))=true by rfl,ct,A12,SC Y T hd1 (D.le (by omega))]
   rw[show ∀ z:Int,((beq 0 0)&&((beq (List.length (Gg z)) 2)&&(beq 2 2)))=true from fun z=>rfl,ct,show((beq 0 0)&&((beq (List.length (Gg 0)) 2)&&(beq 2 2)))=true by rfl,ct,ct,SC I T hd2 (D.le (by omega))]
   have hwz:Au n2 s2/(g:Int)=(((Au n2 s2).natAbs/g:Nat):Int):=by
    rw[show Au n2 s2=(((Au n2 s2).natAbs:Nat):Int) by omega];rfl
   rw[show ∀ z:Int,((beq 0 0)&&((beq (List.length (Gg z)) 2)&&(beq 2 2)))=true from fun z=>rfl,ct,ct,rb,hwz,decide_eq_false (by omega),cf,show ∀ z:Int,ble 2 (List.length (Gg z))=true from fun z=>rfl,ct,rl,A3c,<-q2]
   rw[<-q1];rfl
def Akv{N:Nat}{z w:Int}{o o':Bool}{K:LA->O R}(k:0<=w)(D:fit (4*((Ak z.natAbs).length+(Ak w.natAbs).length)+10) N):O6 N (Gg z) o (Gg w) o' K=K (cq (mkRat z w.natAbs)):=by
 have:=nK (R:=R) (N:=N) (n1:=decide (z<0)) (s1:=.of (Ak z.natAbs) false false) (n2:=decide (w<0)) (s2:=.of (Ak w.natAbs) false false) (o1:=o) (o2:=o') (K:=K) (Ac _) (Ac _) (by rw[Iz];exact k) D
 rw[Iz,Iz]at this;exact this
def H0{N:Nat}{x:RatD}{o:Bool}{K:LA->O R}(k:x.ok)(D:fit (8*x.m+10) N):Kx N x.av o K=K (cq x.q):=by
 have m1:x.ns.l.length<=x.m:=A50 _ _
 have m2:x.ds.l.length<=x.m:=A6a _ _
 rw[eQ];unfold j4
 rw[show ble 2 (List.length x.av)=true by rfl,ct,kB,Auw,Anq,nK (s2:=.of x.ds.l false o) k.1 k.2 (by unfold Au;simp) (D.le (show 4*(x.ns.l.length+x.ds.l.length)+10<=_ by omega))]
 have:mkRat (Au x.neg x.ns) (Au false (.of x.ds.l false o)).natAbs=x.q:=by rw[Cz];rfl
 rw[this];exact fE _ _
def T9{N:Nat}{x:RatD}{o:Bool}{K:LA->O R}(k:x.ok)(D:fit (8*x.m+10) N):U9 N x.av o K=K (Gg (x.q.den:Int)):=by
 rw[nB];unfold tJ
 rw[Jb,ct,Eg,H0 k D]
 have:=kB (R:=R) (x:=bO x.q) (f:=fun e f=>K [.bool false,.imm e f 1 false false])
 refine this.trans ?_
 unfold Gg;rw[decide_eq_false (by omega),A3c];rfl
def XZ(x:RatD)(k:x.ok):qm x.q<=x.m+1:=by
 have m1:x.ns.l.length<=x.m:=A50 _ _
 have m2:x.ds.l.length<=x.m:=A6a _ _
 unfold qm
 by_cases h:val x.ds.l=0
 ·have:x.q=0:=by unfold RatD.q;rw[h,Rat.mkRat_zero]
  rw[this,Rat.zero_num,Rat.zero_den,Yj];simp[D6]
 ·obtain⟨a1,_,a3⟩:=tV (Au x.neg x.ns) (val x.ds.l) h
  have D:x.q.num.natAbs<=val x.ns.l:=by show(mkRat _ _).num.natAbs<=_;rw[a1,Cz];exact A4t _ _
  have G:x.q.den<=val x.ds.l:=by show(mkRat _ _).den<=_;rw[a3];exact A4t _ _
  have c1:=A4f (By D) (Bm k.1).2
  have I:=A4f (By G) (Bm k.2).2
  omega
def Aqw(z:Int)(d:Nat)(k:Nat)(D:z.natAbs<4294967296 ^ k)(G:d<4294967296 ^ k)(I:d≠0):qm (mkRat z d)<=k:=by
 obtain⟨a1,_,a3⟩:=tV z d I
 unfold qm
 have L:(mkRat z d).num.natAbs<=z.natAbs:=by rw[a1];exact A4t _ _
 have T:(mkRat z d).den<=d:=by rw[a3];exact A4t _ _
 have c1:=C7 (A3x L D)
 have Y:=C7 (A3x T G)
 omega
def SD(q:Rat):q.num.natAbs<4294967296 ^ qm q:=Aqr (A50 _ _)
def FS(q:Rat):q.den<4294967296 ^ qm q:=Aqr (A6a _ _)
def Fz(a b:Rat):qm (a+b)<=qm a+qm b+1:=by
 rw[Rat.add_def']
 have da:(a.den:Int).natAbs<4294967296 ^ qm a:=by rw[A3c];exact FS a
 have db:(b.den:Int).natAbs<4294967296 ^ qm b:=by rw[A3c];exact FS b
 refine Aqw _ _ _ ?_ ?_ (A70 a.den_nz b.den_nz)
 ·refine fC (Jc (SD a) db) ?_
  have:=Jc (SD b) da
  rwa [A6c (qm b)]at this
 ·rw[A25,A32]
  have:=A33 (FS a) (FS b)
  omega
def Kb(a b:Rat):qm (a*b)<=qm a+qm b:=by
 rw[Rat.mul_def']
 refine Aqw _ _ _ (Jc (SD a) (SD b)) ?_ (A70 a.den_nz b.den_nz)
 rw[A32];exact A33 (FS a) (FS b)
def Aip(a:Rat):qm (-a)=qm a:=by unfold qm;rw[Rat.neg_num,Rat.neg_den,Int.natAbs_neg]
def Om(a b:Rat):qm (a - b)<=qm a+qm b+1:=by rw[A6g,<-Aip b];exact Fz _ _
def Av8{v:Int}(h:v.natAbs<18446744073709551616):qm (v:Rat)<=2:=by
 unfold qm;rw[Rat.num_intCast,Rat.den_intCast,Yj]
 have:=KZ h
 simp;omega
def A13{a:Int}{b:Nat}:mkRat a (b:Int).natAbs=mkRat a b:=by rw[A3c]
def Aiq{N:Nat}{x:RatD}{o:Bool}{K:LA->O R}(D:x.ok)(k:fit (16*x.m+40) N):pY N x.av o K=K (cq (-x.q)):=by
 have hq:=XZ x D
 have G:(Ak x.q.num.natAbs).length<=qm x.q:=A50 _ _
 have I:(Ak x.q.den).length<=qm x.q:=A6a _ _
 rw[nC];unfold tK
 rw[Jb,ct,Eg,H0 D (k.le (by omega)),yL,ct,kD,Az4 (k.le (show(Ak x.q.num.natAbs).length<=_ by omega)),ct,T9 D (k.le (by omega)),Akv (by omega) (k.le (show 4*((Ak (-x.q.num).natAbs).length+(Ak (x.q.den:Int).natAbs).length)+10<=_ by rw[Int.natAbs_neg,A3c];omega)),A13]
 have:mkRat (-x.q.num) x.q.den=-x.q:=by rw[<-Rat.neg_mkRat,Rat.mkRat_self]
 rw[this];exact fE _ _
def tX{N:Nat}{x y:RatD}{o o':Bool}{K:LA->O R}(G:x.ok)(I:y.ok)(D:fit (16*(x.m+y.m)+80) N):Nz N x.av o y.av o' K=K (cq (x.q+y.q)):=by
 have L:=XZ x G
 have T:=XZ y I
 have x1:=SD x.q
 have x2:(x.q.den:Int).natAbs<4294967296 ^ qm x.q:=by rw[A3c];exact FS _
 have y1:=SD y.q
 have y2:(y.q.den:Int).natAbs<4294967296 ^ qm y.q:=by rw[A3c];exact FS _
 have L1:=C7 x1
 have L2:=C7 x2
 have L3:=C7 y1
 have L4:=C7 y2
 have z1:=Jc x1 y2
 have z2:=Jc y1 x2
 have z3:=fC (k:=qm x.q+qm y.q) z1 (by rwa [A6c])
 have z4:=Jc x2 y2
 have M1:=C7 z1
 have M2:=C7 z2
 have M3:=C7 z3
 have M4:=C7 z4
 rw[nF];unfold tO
 rw[Jb,ct,Eg,H0 G (D.le (by omega)),Jb,ct,Eg,H0 I (D.le (by omega)),show ∀ q,((beq 0 0)&&((beq (List.length (cq q)) 3)&&(beq 3 3)))=true from fun q=>rfl,ct,show ∀ q,((beq 0 0)&&((beq (List.length (cq q)) 3)&&(beq 3 3)))=true from fun q=>rfl,ct,yL,ct,ct,T9 I (D.le (by omega)),kD,Aqu (D.le (show(Ak x.q.num.natAbs).length+(Ak (y.q.den:Int).natAbs).length<=_ by omega)),yL,ct,ct,T9 G (D.le (by omega)),kD,Aqu (D.le (show(Ak y.q.num.natAbs).length+(Ak (x.q.den:Int).natAbs).length<=_ by omega)),Az5 (D.le (show(Ak (x.q.num*(y.q.den:Int)).natAbs).length+(Ak (y.q.num*(x.q.den:Int)).natAbs).length+1<=_ by omega)),ct,T9 G (D.le (by omega)),ct,T9 I (D.le (by omega)),Aqu (D.le (show(Ak (x.q.den:Int).natAbs).length+(Ak (y.q.den:Int).natAbs).length<=_ by omega)),Akv (A8b (by omega) (by omega)) (D.le (show 4*((Ak (x.q.num*(y.q.den:Int)+y.q.num*(x.q.den:Int)).natAbs).length+(Ak ((x.q.den:Int)*(y.q.den:Int)).natAbs).length)+10<=_ by omega))]
 have:mkRat (x.q.num*(y.q.den:Int)+y.q.num*(x.q.den:Int)) ((x.q.den:Int)*(y.q.den:Int)).natAbs=x.q+y.q:=by
  rw[Rat.add_def',A5c,A3c,A3c]
 rw[this];exact fE _ _
def tY{N:Nat}{x y:RatD}{o o':Bool}{K:LA->O R}(G:x.ok)(k:y.ok)(D:fit (16*(x.m+y.m)+100) N):Va N x.av o y.av o' K=K (cq (x.q - y.q)):=by
 have I:=XZ y k
 rw[nG];unfold tP
 rw[Jb,ct,Jb,ct,Eg,Eg,Aiq k (D.le (by omega))]
 have:=tX (R:=R) (N:=N) (x:=x) (y:=bO (-y.q)) (o:=o) (o':=false) (K:=fun e=>cond ((beq 0 0)&&((beq (List.length e) 3)&&(beq 3 3))) (cond (ble 3 (List.length e)) (K (take 3 e)) none) none) G (Aqt _) (D.le (by rw[Aux,Aip];omega))
 rw[Aqs,<-A6g]at this
 exact this.trans (fE _ _)
def SE{N:Nat}{x:RatD}{o:Bool}{K:Int->O R}(k:x.ok)(D:fit (8*x.m+10) N):Vq N x.av o K=K x.q.num.sign:=by
 have hq:=XZ x k
 have G:(Ak x.q.num.natAbs).length<=qm x.q:=A50 _ _
 rw[eX];unfold j5
 rw[Jb,ct,Eg,H0 k D,yL,ct,kD,Aye (D.le (show(Ak x.q.num.natAbs).length<=_ by omega))]
def Aqx(a b:Rat):(a - b).num.sign=HR a b:=by
 unfold HR
 by_cases h:a<b
 ·rw[if_pos h]
  have k:a - b<0:=by grind
  have:(a - b).num<0:=by
   apply Int.not_le.1;intro D
   exact absurd (A9g.1 D) (A8d.2 k)
  exact A3u this
 ·rw[if_neg h]
  by_cases D:b<a
  ·rw[if_pos D]
   have k:0<a - b:=by grind
   have G:0<=(a - b).num:=A9g.2 (A7e k)
   have I:(a - b).num≠0:=fun hh=>by
    have:=A6h.1 hh
    rw[this]at k;exact absurd k Rat.lt_irrefl
   exact A4j (by omega)
  ·rw[if_neg D]
   have:a=b:=A6z (A81.1 D) (A81.1 h)
   rw[this,A7f];rfl
def AM{N:Nat}{x y:RatD}{o o':Bool}{K:Int->O R}(k:x.ok)(D:y.ok)(G:fit (16*(x.m+y.m)+100) N):Dv N x.av o y.av o' K=K (HR x.q y.q):=by
 have I:=XZ x k
 have L:=XZ y D
 have hs:=Om x.q y.q
 rw[OB];unfold LG
 rw[Jb,ct,Jb,ct,Eg,Eg,tY k D G]
 have:=SE (R:=R) (N:=N) (x:=bO (x.q - y.q)) (o:=false) (K:=fun g=>K g) (Aqt _) (G.le (by rw[Aux];omega))
 rw[Aqs,Aqx]at this
 exact this
def Air{N:Nat}{x y:RatD}{o o':Bool}{K:LA->O R}(D:x.ok)(G:y.ok)(k:fit (16*(x.m+y.m)+80) N):LH N x.av o y.av o' K=K (cq (x.q*y.q)):=by
 have I:=XZ x D
 have L:=XZ y G
 have x1:=SD x.q
 have x2:(x.q.den:Int).natAbs<4294967296 ^ qm x.q:=by rw[A3c];exact FS _
 have y1:=SD y.q
 have y2:(y.q.den:Int).natAbs<4294967296 ^ qm y.q:=by rw[A3c];exact FS _
 have L1:=C7 x1
 have L2:=C7 x2
 have L3:=C7 y1
 have L4:=C7 y2
 have M1:=C7 (Jc x1 y1)
 have M4:=C7 (Jc x2 y2)
 rw[nI];unfold tR
 rw[Jb,ct,Eg,H0 D (k.le (by omega)),yL,ct,Jb,ct,Eg,H0 G (k.le (by omega)),yL,ct,kD,kD,Aqu (k.le (show(Ak x.q.num.natAbs).length+(Ak y.q.num.natAbs).length<=_ by omega)),ct,T9 D (k.le (by omega)),ct,T9 G (k.le (by omega)),Aqu (k.le (show(Ak (x.q.den:Int).natAbs).length+(Ak (y.q.den:Int).natAbs).length<=_ by omega)),Akv (A8b (by omega) (by omega)) (k.le (show 4*((Ak (x.q.num*y.q.num).natAbs).length+(Ak ((x.q.den:Int)*(y.q.den:Int)).natAbs).length)+10<=_ by omega))]
 have:mkRat (x.q.num*y.q.num) ((x.q.den:Int)*(y.q.den:Int)).natAbs=x.q*y.q:=by
  rw[Rat.mul_def',A5c,A3c,A3c]
 rw[this];exact fE _ _
def tZ{N:Nat}{v:Int}{K:LA->O R}(k:-9223372036854775808<=v/\v<=9223372036854775807)(hN:4000<=N):B4 N v K=K (cq (v:Rat)):=by
 have D:=KZ (show v.natAbs<18446744073709551616 by omega)
 rw[OA];unfold LF
 rw[XY k (by omega),XY (by omega) (by omega),Akv (by omega) ⟨show 100*(4*((Ak v.natAbs).length+(Ak (1:Int).natAbs).length)+10)+1000<=N by(rw[show(1:Int).natAbs=1 by rfl,Yj];simp;omega),show 4*((Ak v.natAbs).length+(Ak (1:Int).natAbs).length)+10<=1000000000 by(rw[show(1:Int).natAbs=1 by rfl,Yj];simp;omega)⟩]
 have:mkRat v (1:Int).natAbs=(v:Rat):=Aqv v
 rw[this];exact fE _ _
def Ais{N:Nat}{x y:RatD}{o o':Bool}{K:LA->O R}(D:x.ok)(G:y.ok)(k:fit (16*(x.m+y.m)+100) N):e_ N x.av o y.av o' K=K (cq (if x.q<=y.q then x.q else y.q)):=by
 rw[nH];unfold tQ
 rw[Jb,ct,Jb,ct,Eg,Eg,AM D G k]
 by_cases h:x.q<=y.q
 ·rw[decide_eq_true (pZ.2 h),ct,ct,H0 D (k.le (by omega)),if_pos h];exact fE _ _
 ·rw[decide_eq_false (fun hh=>h (pZ.1 hh)),cf,ct,H0 G (k.le (by omega)),if_neg h];exact fE _ _
end
end Gx
namespace Gx
open Go Go.Proofs
set_option maxRecDepth 100000
noncomputable section
variable{R:Type}(N:Nat)
def SF(N:Nat)(r0:LA->O R)(h i:Int)(c:Bool)(a:LA)(m:Bool):O R:=(cond m (Aj .i64 (a.drop 21) fun n=>Aj .i64 (a.drop 7) fun o=>Aj .i64 (a.drop 21) fun p=>Aj .i64 (a.drop 6) fun q=>r0 [.int .i64 (Fc i (wrap .i64 (n - o))),.int .i64 (Cn h (wrap .i64 (p+q)))]) (r0 [.int .i64 i,.int .i64 h]))
def LM(N:Nat)(r0:LA->O R)(b:Int)(c:Bool)(a:LA)(q2:Int->Int->Bool->O R)(h:Int):O R:=(Aj .i64 (a.drop 2) fun i=>cond ((b==0)==true) (Aj .i64 (a.drop 19) fun r=>q2 h i (cond true (r==2) false)) (q2 h i false))
def DV(r0:LA->O R)(b:Int)(c:Bool)(a:LA)(h:Int):O R:=LM N r0 b c a (fun h i=>SF N r0 h i c a) h
def LN(N:Nat)(r0:LA->O R)(e:LA)(d:Nat)(f g:Bool)(b:Int)(c:Bool)(a:LA)(q1:Int->O R)(j:Int):O R:=(cond ((decide ((wrap .i64 (b+1))<(d:Int)))==true) (cond (Ab (wrap .i64 (b+1)) d) (Aj .i64 (e.drop (((wrap .i64 (b+1)).toNat)*1)) fun s=>cond (cond true (s != 2) false) (Aj .i64 (a.drop 9) fun t=>q1 (Cn j t)) (q1 j)) none) (q1 j))
def Vr(r0:LA->O R)(e:LA)(d:Nat)(f g:Bool)(b:Int)(c:Bool)(a:LA)(j:Int):O R:=LN N r0 e d f g b c a (DV N r0 b c a) j
def VG(N:Nat)(r0:LA->O R)(q0:Int->O R)(a:LA)(c:Bool)(e:LA)(d:Nat)(f g:Bool)(b:Int):O R:=(Aj .i64 (a.drop 3) fun l=>cond ((b==0)==true) (Aj .i64 (a.drop 19) fun u=>cond ((cond true (u != 2) false)==false) (cond ((decide (b>0))==true) (cond (Ab (wrap .i64 (b - 1)) d) (Aj .i64 (e.drop (((wrap .i64 (b - 1)).toNat)*1)) fun v=>cond (cond false true (cond true (v != 2) false)) (Aj .i64 (a.drop 8) fun w=>q0 (Cn l w)) (q0 l)) none) (q0 l)) (Aj .i64 (a.drop 8) fun x=>q0 (Cn l x))) (cond ((decide (b>0))==true) (cond (Ab (wrap .i64 (b - 1)) d) (Aj .i64 (e.drop (((wrap .i64 (b - 1)).toNat)*1)) fun y=>cond (cond false true (cond true (y != 2) false)) (Aj .i64 (a.drop 8) fun z=>q0 (Cn l z)) (q0 l)) none) (q0 l)))
def SG:=(shut fun N a c e d f g b r0=>VG (R:=R) N r0 (Vr N r0 e d f g b c a) a c e d f g b).1
def fF(a c e d f g b r0):(@SG R N a c e d f g b r0)=(VG N r0 (Vr N r0 e d f g b c a) a c e d f g b):=by rw[SG,(shut _).2]
def nL:Hints:={H:=hK 2 (hJ [1,2,3,6,7] hL (hJ [2,3,6,7] hL (hK 1 (hS (hJ [3,6,7,8,59] hL hL) hL)))),modes:=[(3,0)]}
def SH(F:KF R):=Iv Tryz.f165 nL [] [] N F
def Ae6(h i:Int)(c:Bool)(a:LA)(K:St->O R):=fun m=>K ⟨[(3,op 0),(6,op 1),(7,iv h),(8,iv i),(59,.bool m)],hq [bP c 0 a,bQ 0 [iv 0,iv 0]]⟩
def Ae7(b:Int)(c:Bool)(a:LA)(K:St->O R):=fun h=>K ⟨[(2,iv b),(3,op 0),(6,op 1),(7,iv h)],hq [bP c 0 a,bQ 0 [iv 0,iv 0]]⟩
def Ae8(e:LA)(d:Nat)(f g:Bool)(b:Int)(c:Bool)(a:LA)(K:St->O R):=fun j=>K ⟨[(1,.imm e d 1 f g),(2,iv b),(3,op 0),(6,op 1),(7,iv j)],hq [bP c 0 a,bQ 0 [iv 0,iv 0]]⟩
def t6(F:KF R)(h i c a):Ae6 h i c a (A1 (SH N F (pz 21841) []))=(SF N (Dx F) h i c a):=by kernel_rfl
def t7(F:KF R)(b c a):Ae7 b c a (A1 (SH N F (pz 341) []))=(DV N (Dx F) b c a):=(B6 (LM N (Dx F) b c a) (rD fun h i=>(jW ..).trans (t6 ..)):_)
def t8(F:KF R)(e d f g b c a):Ae8 e d f g b c a (A1 (SH N F (pz 85) []))=(Vr N (Dx F) e d f g b c a):=(B6 (LN N (Dx F) e d f g b c a) ((jW ..).trans (t7 ..)):_)
def Ait:=Cc N 165 [] nL (fun
|[.pagg a c,.imm e d 1 f g,.int .i64 b],[]=>some fun _ k=>SG N a c e d f g b (Dx k)
| _,_=>none) fun _ _=>by split;intro R F;exact(B6 (VG N (Dx F) · _ _ _ _ _ _ _) ((jW ..).trans (t8 ..)):_).trans (fF ..).symm;trivial
def Wq(N:Nat)(k1:Nat->Int->LA->O R)(r0:Nat->Int->LA->O R)(i:Int)(c:LA)(b:Nat)(g f:Bool)(h:Nat)(j:Int)(d:Bool)(a q:LA):O R:=(cond (Ab j h) (Aj .i64 (q.drop (0+(j.toNat*2))) fun v=>cond (Ab j h) (Aj .i64 (q.drop ((0+(j.toNat*2))+1)) fun w=>cond (decide (v>w)) (r0 0 7 []) (k1 h (wrap .i64 (j+1)) q)) none) none)
def Ua(N:Nat)(k1:Nat->Int->LA->O R)(r0:Nat->Int->LA->O R)(i:Int)(c:LA)(b:Nat)(g f:Bool)(h:Nat)(j:Int)(d:Bool)(a:LA)(q4:LA->O R)(r:Bool)(m:LA):O R:=(cond r (cond (Ab j h) (Aj .i64 (m.drop (0+(j.toNat*2))) fun x=>cond (Ab (wrap .i64 (j - 1)) h) (Aj .i64 (m.drop (0+(((wrap .i64 (j - 1)).toNat)*2))) fun y=>Aj .i64 (a.drop 7) fun z=>cond (Ab j h) (Aj .i64 (m.drop ((0+(j.toNat*2))+1)) fun aa=>cond (Ab (wrap .i64 (j - 1)) h) (Aj .i64 (m.drop ((0+(((wrap .i64 (j - 1)).toNat)*2))+1)) fun ab=>Aj .i64 (a.drop 6) fun ac=>cond (Ab j h) (cond ((beq 2 2)&&((ble ((0+(j.toNat*2))+2) m.length)&&(!false))) (q4 (D2 m (0+(j.toNat*2)) [.int .i64 (Fc x (wrap .i64 (y - z))),.int .i64 (Cn aa (wrap .i64 (ab+ac)))])) none) none) none) none) none) none) (q4 m))
def Pi(k1:Nat->Int->LA->O R)(r0:Nat->Int->LA->O R)(i:Int)(c:LA)(b:Nat)(g f:Bool)(h:Nat)(j:Int)(d:Bool)(a:LA)(r:Bool)(m:LA):O R:=Ua N k1 r0 i c b g f h j d a (Wq N k1 r0 i c b g f h j d a) r m
def Pj(N:Nat)(k3:Int->LA->O R)(r0:Nat->Int->LA->O R)(c:LA)(b:Nat)(g f:Bool)(h:Nat)(l:Int)(d:Bool)(a:LA)(t:Bool)(o:LA):O R:=(cond t (cond (Ab (wrap .i64 (l - 1)) h) (Aj .i64 (o.drop (0+(((wrap .i64 (l - 1)).toNat)*2))) fun ad=>cond (Ab l h) (Aj .i64 (o.drop (0+(l.toNat*2))) fun ae=>Aj .i64 (a.drop 6) fun af=>cond (Ab (wrap .i64 (l - 1)) h) (Aj .i64 (o.drop ((0+(((wrap .i64 (l - 1)).toNat)*2))+1)) fun ag=>cond (Ab l h) (Aj .i64 (o.drop ((0+(l.toNat*2))+1)) fun ah=>Aj .i64 (a.drop 7) fun ai=>cond (Ab (wrap .i64 (l - 1)) h) (cond ((beq 2 2)&&((ble ((0+(((wrap .i64 (l - 1)).toNat)*2))+2) o.length)&&(!false))) (k3 (wrap .i64 (l - 1)) (D2 o (0+(((wrap .i64 (l - 1)).toNat)*2)) [.int .i64 (Fc ad (wrap .i64 (ae - af))),.int .i64 (Cn ag (wrap .i64 (ah+ai)))])) none) none) none) none) none) none) (k3 (wrap .i64 (l - 1)) o))
def N0(N:Nat)(r0:Nat->Int->LA->O R)(c:LA)(b:Nat)(g f:Bool)(h:Nat)(d:Bool)(a:LA)(k3:Int->LA->O R)(q5:Int->Bool->LA->O R)(l:Int)(s:LA):O R:=(cond (decide (l>0)) (cond (Ab l b) (Aj .i64 (c.drop (l.toNat*1)) fun aj=>cond ((aj==2)==true) (cond (Ab (wrap .i64 (l - 1)) b) (Aj .i64 (c.drop (((wrap .i64 (l - 1)).toNat)*1)) fun ak=>q5 l (cond true (ak==2) false) s) none) (q5 l false s)) none) (r0 h 0 s))
def F0(r0:Nat->Int->LA->O R)(c:LA)(b:Nat)(g f:Bool)(h:Nat)(d:Bool)(a:LA):Nat->Int->LA->O R
|0=>fun _ _=>none
|n+1=>N0 N r0 c b g f h d a (F0 r0 c b g f h d a n) (fun l=>Pj N (F0 r0 c b g f h d a n) r0 c b g f h l d a)
def N1(r0:Nat->Int->LA->O R)(i:Int)(c:LA)(b:Nat)(g f d:Bool)(a:LA)(k1:Nat->Int->LA->O R)(q2:Nat->Int->Bool->LA->O R)(q3:Nat->Int->LA->O R)(h:Nat)(j:Int)(p:LA):O R:=(cond (decide (j<i)) (cond (Ab j b) (Aj .i64 (c.drop (j.toNat*1)) fun al=>cond (al != 2) (k1 h (wrap .i64 (j+1)) p) (cond (ble 22 a.length) (SG N (a.take 22) d c b false f j fun u=>cond (Ab j h) (cond ((beq u.length 2)&&((ble ((0+(j.toNat*2))+2) p.length)&&(!false))) (cond ((decide (j>0))==true) (cond (Ab (wrap .i64 (j - 1)) b) (Aj .i64 (c.drop (((wrap .i64 (j - 1)).toNat)*1)) fun am=>q2 h j (cond true (am==2) false) (setCells p (0+(j.toNat*2)) u)) none) (q2 h j false (setCells p (0+(j.toNat*2)) u))) none) none) none)) none) (q3 h (wrap .i64 (i - 1)) p))
def Ez(r0:Nat->Int->LA->O R)(i:Int)(c:LA)(b:Nat)(g f d:Bool)(a:LA):Nat->Nat->Int->LA->O R
|0=>fun _ _ _=>none
|n+1=>N1 N r0 i c b g f d a (Ez r0 i c b g f d a n) (fun h j=>Pi N (Ez r0 i c b g f d a n) r0 i c b g f h j d a) (fun h=>F0 N r0 c b g f h d a N)
def Ub(N:Nat)(r0:Nat->Int->LA->O R)(i:Int)(c:LA)(b:Nat)(g f d:Bool)(a:LA)(q1:Nat->Int->LA->O R):O R:=(cond ((decide (0<=i))&&((decide (i<=i))&&((decide (i<=140737488355328))&&(decide ((i*((16:Nat):Int))<=140737488355328))))) (q1 i.toNat 0 (List.flatten (replicate i.toNat ([Bbr,Bbr]:LA)))) none)
def Ky(r0:Nat->Int->LA->O R)(i:Int)(c:LA)(b:Nat)(g f d:Bool)(a:LA):O R:=Ub N r0 i c b g f d a (Ez N r0 i c b g f d a N)
def Vb(r0:Nat->Int->LA->O R)(q0:O R)(a:LA)(d:Bool)(i:Int)(c:LA)(b:Nat)(g f:Bool):O R:=(cond (ble 22 a.length) (Qn N (a.take 22) d i fun an=>cond (!an) (r0 0 1 []) (cond ((b:Int) != i) (r0 0 4 []) (cond (ble 22 a.length) (Vo N (a.take 22) d c b false f fun av aw ao ax=>cond (ao != 0) (r0 0 16 []) (Aj .i64 (a.drop 19) fun ap=>cond ((ap==2)==true) (cond (Ab 0 b) (Aj .i64 c fun aq=>cond ((cond true (aq != 2) false)==true) (Aj .i64 (a.drop 21) fun ar=>Aj .i64 (a.drop 9) fun au=>cond (cond true (decide (ar>au)) false) (r0 0 7 []) q0) q0) none) q0)) none))) none)
def Ry:=(shut fun N a d i c b g f r0=>Vb (R:=R) N r0 (Ky N r0 i c b g f d a) a d i c b g f).1
def HS(a d i c b g f r0):(@Ry R N a d i c b g f r0)=(Vb N r0 (Ky N r0 i c b g f d a) a d i c b g f):=by rw[Ry,(shut _).2]
def OC:Hints:={H:=hK 4 (hJ [1,2,3] hL (hK 1 (hS (hK 1 (hS (hP [1,2,3,11,12] (hK 1 (hS (hS (hK 2 (hJ [1,2,3,11,12] (hJ [1,2,3,11,12,75] hL hL) hL)) hL) hL))) hL)) (hS (hK 1 (hS (hP [2,3,11,13] (hK 1 (hS (hS (hJ [2,3,11,13,139] hL hL) hL) hL))) hL)) hL)))),nils:=[(6,2)],modes:=[(2,2),(0,0)]}
def SI:Oe:=[DD N,KU N,Ait N]
def Hq(F:KF R):=Iv Tryz.f96 OC (SI N) [] N F
def oq(i:Int)(c:LA)(b:Nat)(g f:Bool)(h:Nat)(j:Int)(d:Bool)(a:LA)(K:St->O R):=fun q=>K ⟨[(1,iv i),(2,.imm c b 1 g f),(3,op 0),(11,Bbq 1 h),(12,iv j)],hq [bP d 0 a,bQ 2 q]⟩
def ot(i:Int)(c:LA)(b:Nat)(g f:Bool)(h:Nat)(j:Int)(d:Bool)(a:LA)(K:St->O R):=fun r m=>K ⟨[(1,iv i),(2,.imm c b 1 g f),(3,op 0),(11,Bbq 1 h),(12,iv j),(75,.bool r)],hq [bP d 0 a,bQ 2 m]⟩
def ou(c:LA)(b:Nat)(g f:Bool)(h:Nat)(l:Int)(d:Bool)(a:LA)(K:St->O R):=fun t o=>K ⟨[(2,.imm c b 1 g f),(3,op 0),(11,Bbq 1 h),(13,iv l),(139,.bool t)],hq [bP d 0 a,bQ 2 o]⟩
def OD(c:LA)(b:Nat)(g f:Bool)(h:Nat)(d:Bool)(a:LA)(K:St->O R):=fun l s=>K ⟨[(2,.imm c b 1 g f),(3,op 0),(11,Bbq 1 h),(13,iv l)],hq [bP d 0 a,bQ 2 s]⟩
def Pk(i:Int)(c:LA)(b:Nat)(g f d:Bool)(a:LA)(K:St->O R):=fun h j p=>K ⟨[(1,iv i),(2,.imm c b 1 g f),(3,op 0),(11,Bbq 1 h),(12,iv j)],hq [bP d 0 a,bQ 2 p]⟩
def ov(i:Int)(c:LA)(b:Nat)(g f d:Bool)(a:LA)(K:St->O R):=K ⟨[(1,iv i),(2,.imm c b 1 g f),(3,op 0)],hq [bP d 0 a]⟩
def aJ Q1 (F:KF R) (i c b g f h j d a):oq i c b g f h j d a (A1 (Hq N F (pz 5726340117) [Q1]))=(Wq N (Pk i c b g f d a Q1) (Qg F) i c b g f h j d a):=by kernel_rfl
def aK Q1 (F:KF R) (i c b g f h j d a):ot i c b g f h j d a (A1 (Hq N F (pz 22905360465) [Q1]))=(Pi N (Pk i c b g f d a Q1) (Qg F) i c b g f h j d a):=(B6 (Ua N (Pk i c b g f d a Q1) (Qg F) i c b g f h j d a) ((jW ..).trans (aJ ..)):_)
def aL Q3 (F:KF R) (c b g f h l d a):ou c b g f h l d a (A1 (Hq N F (pz 1431638081) [Q3]))=(Pj N (OD c b g f h d a Q3) (Qg F) c b g f h l d a):=by kernel_rfl
def aM(F:KF R)(c b g f h d a):∀ n,OD c b g f h d a (Ao (Hq N F (pz 1398084) []) n)=(F0 N (Qg F) c b g f h d a n):=Gu fun n e=>(QH (N0 N (Qg F) c b g f h d a) e (vQ fun l=>(jW ..).trans ((aL ..).trans (xP (Pj _ · _ _ _ _ _ _ _ _ _) e))):_)
def aN(F:KF R)(i c b g f d a):∀ n,Pk i c b g f d a (Ao (Hq N F (pz 349508) []) n)=(Ez N (Qg F) i c b g f d a n):=Gu fun n e=>(Azy (N1 N (Qg F) i c b g f d a) e (rD fun h j=>(jW ..).trans ((aK ..).trans (xP (Pi _ · _ _ _ _ _ _ _ _ _ _) e))) (vQ fun h=>(lW ..).trans (aM ..)):_)
def aO(F:KF R)(i c b g f d a):ov i c b g f d a (A1 (Hq N F (pz 1365) []))=(Ky N (Qg F) i c b g f d a):=(B6 (Ub N (Qg F) i c b g f d a) ((lW ..).trans (aN ..)):_)
def t_:=Cc N 96 (SI N) OC (fun
|[.pagg a d,.int .i64 i,.imm c b 1 g f],[]=>some fun _ k=>Ry N a d i c b g f (Qg k)
| _,_=>none) fun _ _=>by split;intro R F;exact(B6 (Vb N (Qg F) · _ _ _ _ _ _ _) ((jW ..).trans (aO ..)):_).trans (HS ..).symm;trivial
def Hd(k0:Int->O R)(r0:Bool->O R)(rec:LA->Bool->Int->LA->Nat->Bool->Bool->LA->Nat->Bool->Bool->(Bool->O R)->O R)(g:Int)(i:LA)(l:Nat)(q p:Bool)(f:LA)(b:Nat)(r o:Bool)(s:Int)(m:Bool)(c:LA):O R:=(cond ((!o)||(Bb f)) (cond ((ble (0+b) 140737488355328)&&(ble ((0+b)*8) 140737488355328)) (cond ((ble ((0+b)+1) 140737488355328)&&(ble (((0+b)+1)*8) 140737488355328)) (cond (ble 22 c.length) (Vo N (c.take 22) m (take (((0+b)+1)*1) ((f.take ((0+b)*1))++[.int .i64 s])) ((0+b)+1) false true fun y z t aa=>cond ((t==0)==true) (cond (ble 22 c.length) (rec (c.take 22) m g i l false p (take (((0+b)+1)*1) ((f.take ((0+b)*1))++[.int .i64 s])) ((0+b)+1) false true fun u=>cond (cond true u false) (r0 true) (k0 (wrap .i64 (s+1)))) none) (k0 (wrap .i64 (s+1)))) none) none) none) none)
def I0(N:Nat)(r0:Bool->O R)(rec:LA->Bool->Int->LA->Nat->Bool->Bool->LA->Nat->Bool->Bool->(Bool->O R)->O R)(g:Int)(i:LA)(l:Nat)(q p:Bool)(f:LA)(b:Nat)(r o m:Bool)(c:LA)(k0:Int->O R)(q1:Int->O R)(s:Int):O R:=(cond (decide (s<=2)) (cond (Ab (b:Int) l) (Aj .i64 (i.drop (b*1)) fun v=>cond ((v != (-1))==true) (cond (Ab (b:Int) l) (Aj .i64 (i.drop (b*1)) fun w=>cond (cond true (w != s) false) (k0 (wrap .i64 (s+1))) (q1 s)) none) (q1 s)) none) (r0 false))
def Bk(r0:Bool->O R)(rec:LA->Bool->Int->LA->Nat->Bool->Bool->LA->Nat->Bool->Bool->(Bool->O R)->O R)(g:Int)(i:LA)(l:Nat)(q p:Bool)(f:LA)(b:Nat)(r o m:Bool)(c:LA):Nat->Int->O R
|0=>fun _=>none
|n+1=>I0 N r0 rec g i l q p f b r o m c (Bk r0 rec g i l q p f b r o m c n) (fun s=>Hd N (Bk r0 rec g i l q p f b r o m c n) r0 rec g i l q p f b r o s m c)
def N2(r0:Bool->O R)(rec:LA->Bool->Int->LA->Nat->Bool->Bool->LA->Nat->Bool->Bool->(Bool->O R)->O R)(q0:Int->O R)(c:LA)(m:Bool)(g:Int)(i:LA)(l:Nat)(q p:Bool)(f:LA)(b:Nat)(r o:Bool):O R:=(cond ((b:Int)==g) (cond (ble 22 c.length) (Ry N (c.take 22) m g f b false o fun ab x ac=>r0 (x==0)) none) (q0 0))
def A8:Nat->LA->Bool->Int->LA->Nat->Bool->Bool->LA->Nat->Bool->Bool->(Bool->O R)->O R
|0=>fun _ _ _ _ _ _ _ _ _ _ _ _=>none
|d+1=>fun c m g i l q p f b r o r0=>N2 N r0 (A8 d) (Bk N r0 (A8 d) g i l q p f b r o m c N) c m g i l q p f b r o
def OE(c:LA)(m:Bool)(g:Int)(i:LA)(l:Nat)(q p:Bool)(f:LA)(b:Nat)(r o:Bool)(r0:Bool->O R):O R:=A8 N N c m g i l q p f b r o r0
def AN:Hints:={H:=hK 2 (hS (hK 1 (hS (hP [1,2,3,4,11] (hK 1 (hS (hS (hJ [1,2,3,4,11] hL hL) hL) hL))) hL)) hL)}
def Rz:Oe:=[t_ N,KU N]
def Cg(d:Nat)(a:LA)(h:Ap)(k:KF R):O R :=
 match a,h with
|[.pagg c m,.int .i64 g,.imm i l 1 q p,.imm f b 1 r o],[]=>A8 N d c m g i l q p f b r o (Bu k)
|_,_=>none
def AO(d:Nat)(H:xS N 42 fun R N=>@Cg R N d)(F:KF R):=A05 Tryz.f42 AN ((42,As0 @H)::(Al7 (Rz N))) [] N F
def aP(g:Int)(i:LA)(l:Nat)(q p:Bool)(f:LA)(b:Nat)(r o:Bool)(s:Int)(m:Bool)(c:LA)(K:St->O R):=K ⟨[(1,iv g),(2,.imm i l 1 q p),(3,.imm f b 1 r o),(4,op 0),(11,iv s)],hq [bP m 0 c]⟩
def AP(g:Int)(i:LA)(l:Nat)(q p:Bool)(f:LA)(b:Nat)(r o m:Bool)(c:LA)(K:St->O R):=fun s=>K ⟨[(1,iv g),(2,.imm i l 1 q p),(3,.imm f b 1 r o),(4,op 0),(11,iv s)],hq [bP m 0 c]⟩
def PE(d:Nat)(H:xS N 42 fun R N=>@Cg R N d)Q0 (F:KF R) (g i l q p f b r o s m c):aP g i l q p f b r o s m c (A1 (AO N d @H F (pz 1380417) [Q0]))=(Hd N (AP g i l q p f b r o m c Q0) (Bu F) (A8 N d) g i l q p f b r o s m c):=by kernel_rfl
def PF(d:Nat)(H:xS N 42 fun R N=>@Cg R N d)(F:KF R)(g i l q p f b r o m c):∀ n,AP g i l q p f b r o m c (Ao (AO N d @H F (pz 1348) []) n)=(Bk N (Bu F) (A8 N d) g i l q p f b r o m c n):=Gu fun n e=>(QH (I0 N (Bu F) (A8 N d) g i l q p f b r o m c) e (vQ fun s=>(jW ..).trans ((PE N d @H ..).trans (xP (Hd _ · _ _ _ _ _ _ _ _ _ _ _ _ _ _) e))):_)
def AQ(d:Nat)(H:xS N 42 fun R N=>@Cg R N d)(c:LA)(m:Bool)(g:Int)(i:LA)(l:Nat)(q p:Bool)(f:LA)(b:Nat)(r o:Bool)(F:KF R):A1w ((42,As0 @H)::(Al7 (Rz N))) AN N 42 [.pagg c m,iv g,.imm i l 1 q p,.imm f b 1 r o] [] F=(A8 N (d+1) c m g i l q p f b r o (Bu F)):=Eq.trans (B6 (N2 N (Bu F) (A8 N d) · c m g i l q p f b r o) ((lW ..).trans (PF N d @H ..)):_) (by rfl)
section
attribute [local irreducible] A8 Wz
set_option maxHeartbeats 1000000 in
def Kc:∀ d,xS N 42 fun R N=>@Cg R N d
|0=>by
  intro a h k j;simp only[Cg];right;constructor<;>split<;>first|rfl|rw[A8]
|d+1=>by intro a h k j;simp only[Cg];split;exact Azt (AQ N d (Kc d) ..) (AQ N d (Kc d) ..) ⟨A06 (run:=fun R N=>@Cg R N d) (Kc d),zV (Rz N)⟩;exact Azu
end
def fG:=Ax0 _ (A06 (run:=fun R N=>@Cg R N N) (Kc N N))
def Kz(k0:Int->O R)(r0:Bool->O R)(b:Int)(c:LA)(d:Nat)(h g:Bool)(i:Int)(f:Bool)(a:LA):O R:=(cond (ble 22 a.length) (Vo N (a.take 22) f [.int .i64 i] 1 false true fun q r j s=>cond ((j==0)==true) (cond (ble 22 a.length) (OE N (a.take 22) f b c d false g [.int .i64 i] 1 false true fun l=>cond (cond true l false) (r0 true) (k0 (wrap .i64 (i+1)))) none) (k0 (wrap .i64 (i+1)))) none)
def N3(N:Nat)(r0:Bool->O R)(b:Int)(c:LA)(d:Nat)(h g f:Bool)(a:LA)(k0:Int->O R)(q1:Int->O R)(i:Int):O R:=(cond (decide (i<=2)) (cond (Ab 0 d) (Aj .i64 c fun m=>cond ((m != (-1))==true) (cond (Ab 0 d) (Aj .i64 c fun o=>cond (cond true (o != i) false) (k0 (wrap .i64 (i+1))) (q1 i)) none) (q1 i)) none) (r0 false))
def B0(r0:Bool->O R)(b:Int)(c:LA)(d:Nat)(h g f:Bool)(a:LA):Nat->Int->O R
|0=>fun _=>none
|n+1=>N3 N r0 b c d h g f a (B0 r0 b c d h g f a n) (fun i=>Kz N (B0 r0 b c d h g f a n) r0 b c d h g i f a)
def Vc(r0:Bool->O R)(q0:Int->O R)(a:LA)(f:Bool)(b:Int)(c:LA)(d:Nat)(h g:Bool):O R:=(cond (0==b) (cond (ble 22 a.length) (Pg N (a.take 22) f b fun t p u=>r0 (p==0)) none) (q0 0))
def Yk:=(shut fun N a f b c d h g r0=>Vc (R:=R) N r0 (B0 N r0 b c d h g f a N) a f b c d h g).1
def HT(a f b c d h g r0):(@Yk R N a f b c d h g r0)=(Vc N r0 (B0 N r0 b c d h g f a N) a f b c d h g):=by rw[Yk,(shut _).2]
def OF:Hints:={H:=hK 2 (hS (hK 1 (hS (hP [1,2,3,4,11] (hK 1 (hS (hS (hJ [1,2,3,4,11] hL hL) hL) hL))) hL)) hL)}
def SK:Oe:=[dZ N,KU N,fG N]
def OG(F:KF R):=Iv Tryz.f42 OF (SK N) [] N F
def ow(b:Int)(c:LA)(d:Nat)(h g:Bool)(i:Int)(f:Bool)(a:LA)(K:St->O R):=K ⟨[(1,iv b),(2,.imm c d 1 h g),(3,.nsl),(4,op 0),(11,iv i)],hq [bP f 0 a]⟩
def OH(b:Int)(c:LA)(d:Nat)(h g f:Bool)(a:LA)(K:St->O R):=fun i=>K ⟨[(1,iv b),(2,.imm c d 1 h g),(3,.nsl),(4,op 0),(11,iv i)],hq [bP f 0 a]⟩
def aQ Q0 (F:KF R) (b c d h g i f a):ow b c d h g i f a (A1 (OG N F (pz 1380417) [Q0]))=(Kz N (OH b c d h g f a Q0) (Bu F) b c d h g i f a):=by kernel_rfl
def aR(F:KF R)(b c d h g f a):∀ n,OH b c d h g f a (Ao (OG N F (pz 1348) []) n)=(B0 N (Bu F) b c d h g f a n):=Gu fun n e=>(QH (N3 N (Bu F) b c d h g f a) e (vQ fun i=>(jW ..).trans ((aQ ..).trans (xP (Kz _ · _ _ _ _ _ _ _ _ _) e))):_)
def tj:=Cc N 42 (SK N) OF (fun
|[.pagg a f,.int .i64 b,.imm c d 1 h g,.nsl],[]=>some fun _ k=>Yk N a f b c d h g (Bu k)
| _,_=>none) fun _ _=>by split;intro R F;exact(B6 (Vc N (Bu F) · _ _ _ _ _ _ _) ((lW ..).trans (aR ..)):_).trans (HT ..).symm;trivial
def FT(a:LA)(b:Bool)(c:Int)(d:LA)(e:Nat)(g f:Bool)(r0:Bool->O R):O R:=(cond (ble 22 a.length) (Yk N (a.take 22) b c d e false f fun h=>r0 h) none)
def Yl:=(shut (@FT R)).1
def HU:@Yl R=@FT R:=(shut _).2
def tn:=Cc N 17 [tj N] D5 (fun
|[.pagg a b,.int .i64 c,.imm d e 1 g f],[]=>some fun _ k=>Yl N a b c d e g f (Bu k)
| _,_=>none) fun _ _=>by split;intro R F;dsimp only;rw[HU];kernel_rfl;trivial
def SL(a:LA)(b:Bool)(c d:Int)(r0:Bool->O R):O R:=(cond (ble 3 a.length) (B4 N c fun e=>Dv N (a.take 3) b e false fun f=>cond ((decide (f>=0))==true) (cond (ble 3 a.length) (B4 N d fun g=>Dv N (a.take 3) b g false fun h=>r0 (cond true (decide (h<=0)) false)) none) (r0 false)) none)
def LO:=(shut (@SL R)).1
def SM:@LO R=@SL R:=(shut _).2
def Aa5:=Cc N 32 [Ll N,O7 N] D5 (fun
|[.pagg a b,.int .i64 c,.int .i64 d],[]=>some fun _ k=>LO N a b c d (Bu k)
| _,_=>none) fun _ _=>by split;intro R F;dsimp only;rw[SM];kernel_rfl;trivial
def SN(e:LA)(g:Bool)(f:LA)(b:Bool)(a:Int)(r0:Bool->O R):O R:=(Dd 3 (f.drop 1) fun c h=>cond (Ab a h) (cond (ble 3 ((c.drop (a.toNat*3)).length)) (Dd 3 (f.drop 2) fun d i=>cond (Ab a i) (cond (ble 3 ((d.drop (a.toNat*3)).length)) (cond ((beq 0 0)&&((beq (((c.drop (a.toNat*3)).take 3).length) 3)&&(beq 3 3))) (cond ((beq 0 0)&&((beq (((d.drop (a.toNat*3)).take 3).length) 3)&&(beq 3 3))) (Dd 1 f fun j l=>cond (Ab a l) (Aj .i64 (j.drop (a.toNat*1)) fun m=>cond (m != 2) (cond (ble 3 (((c.drop (a.toNat*3)).take 3).length)) (Vq N (((c.drop (a.toNat*3)).take 3).take 3) b fun n=>cond ((n==0)==true) (cond (ble 3 (((d.drop (a.toNat*3)).take 3).length)) (Vq N (((d.drop (a.toNat*3)).take 3).take 3) b fun o=>r0 (cond true (o==0) false)) none) (r0 false)) none) (cond (ble 3 (((c.drop (a.toNat*3)).take 3).length)) (Aj .i64 (e.drop 2) fun p=>B4 N p fun q=>Dv N (((c.drop (a.toNat*3)).take 3).take 3) b q false fun r=>cond ((decide (r>=0))==true) (cond (ble 3 (((d.drop (a.toNat*3)).take 3).length)) (Aj .i64 (e.drop 16) fun s=>LO N (((d.drop (a.toNat*3)).take 3).take 3) b 0 s fun t=>cond ((cond true t false)==true) (cond (ble 3 (((c.drop (a.toNat*3)).take 3).length)) (cond (ble 3 (((d.drop (a.toNat*3)).take 3).length)) (Nz N (((c.drop (a.toNat*3)).take 3).take 3) b (((d.drop (a.toNat*3)).take 3).take 3) b fun u=>Aj .i64 (e.drop 3) fun v=>B4 N v fun w=>Dv N u false w false fun x=>r0 (cond true (decide (x<=0)) false)) none) none) (r0 false)) none) (r0 false)) none)) none) none) none) none) none) none) none)
def LP:=(shut (@SN R)).1
def SO:@LP R=@SN R:=(shut _).2
def Aa6:=Cc N 64 [aC N,Ll N,O7 N,Aa5 N,T8 N] D5 (fun
|[.pagg e g,.pagg f b,.int .i64 a],[]=>some fun _ k=>LP N e g f b a (Bu k)
| _,_=>none) fun _ _=>by split;intro R F;dsimp only;rw[SO];kernel_rfl;trivial
def SP(b:LA)(g:Bool)(c:LA)(e:Bool)(a:Int)(r0:Bool->LA->Bool->O R):O R:=(cond (a==0) (Aj .i64 (b.drop 19) fun h=>Aj .i64 (b.drop 21) fun i=>B4 N i fun f=>cond ((beq 0 0)&&((beq f.length 3)&&(beq 3 3))) (cond (ble 3 f.length) (r0 (h==2) (f.take 3) false) none) none) (Dd 1 c fun j l=>cond (Ab (wrap .i64 (a - 1)) l) (Aj .i64 (j.drop (((wrap .i64 (a - 1)).toNat)*1)) fun m=>Dd 3 (c.drop 1) fun d n=>cond (Ab (wrap .i64 (a - 1)) n) (cond (ble 3 ((d.drop (((wrap .i64 (a - 1)).toNat)*3)).length)) (cond ((beq 0 0)&&((beq (((d.drop (((wrap .i64 (a - 1)).toNat)*3)).take 3).length) 3)&&(beq 3 3))) (cond (ble 3 (((d.drop (((wrap .i64 (a - 1)).toNat)*3)).take 3).length)) (r0 (m==2) (((d.drop (((wrap .i64 (a - 1)).toNat)*3)).take 3).take 3) e) none) none) none) none) none))
def LQ:=(shut (@SP R)).1
def SQ:@LQ R=@SP R:=(shut _).2
def wN(F:KF R):Bool->LA->Bool->O R:=fun o p q=>F (.tup [.bool o,.pagg p q]) []
def Aa7:=Cc N 122 [Ll N] { H:=hL,modes:=[(0,0),(3,0)] } (fun
|[.pagg b g,.pagg c e,.int .i64 a],[]=>some fun _ k=>LQ N b g c e a (wN k)
| _,_=>none) fun _ _=>by split;intro R F;dsimp only;rw[SQ];kernel_rfl;trivial
def Vd(r0:Bool->O R)(h f:Bool)(a:LA)(g:Bool)(b:LA)(d:Bool)(e:LA)(m n:Bool)(l:LA):O R:=(cond n (cond (ble 3 e.length) (cond (ble 3 b.length) (Va N (e.take 3) false (b.take 3) g fun q=>Aj .i64 (a.drop 6) fun r=>B4 N r fun s=>Dv N q false s false fun t=>cond ((decide (t<=0))==true) (cond (ble 3 b.length) (cond (ble 3 l.length) (Va N (b.take 3) g (l.take 3) d fun u=>Aj .i64 (a.drop 7) fun v=>B4 N v fun w=>Dv N u false w false fun x=>r0 (cond true (decide (x<=0)) false)) none) none) (r0 false)) none) none) (cond m (cond (ble 3 e.length) (Aj .i64 (a.drop 8) fun y=>B4 N y fun z=>Dv N (e.take 3) false z false fun aa=>r0 (decide (aa<=0))) none) (cond h (cond (ble 3 b.length) (Aj .i64 (a.drop 9) fun ab=>B4 N ab fun ac=>Dv N (b.take 3) g ac false fun ad=>r0 (decide (ad<=0))) none) (r0 true))))
def DW(r0:Bool->O R)(q0:Bool->Bool->LA->LA->Bool->Bool->LA->O R)(a:LA)(f:Bool)(i:LA)(d:Bool)(c:Int):O R:=(cond (ble 22 a.length) (cond (ble 3 i.length) (LQ N (a.take 22) f (i.take 3) d c fun h b g=>cond ((beq 0 0)&&((beq b.length 3)&&(beq 3 3))) (Dd 1 i fun ae af=>cond (Ab c af) (Aj .i64 (ae.drop (c.toNat*1)) fun o=>Dd 3 (i.drop 1) fun j ag=>cond (Ab c ag) (cond (ble 3 ((j.drop (c.toNat*3)).length)) (cond ((beq 0 0)&&((beq (((j.drop (c.toNat*3)).take 3).length) 3)&&(beq 3 3))) (cond (ble 3 (((j.drop (c.toNat*3)).take 3).length)) (Dd 3 (i.drop 2) fun p ah=>cond (Ab c ah) (cond (ble 3 ((p.drop (c.toNat*3)).length)) (Nz N (((j.drop (c.toNat*3)).take 3).take 3) d ((p.drop (c.toNat*3)).take 3) d fun e=>cond ((beq 0 0)&&((beq e.length 3)&&(beq 3 3))) (cond ((o==2)==true) (q0 h g b e (o==2) (cond true h false) ((j.drop (c.toNat*3)).take 3)) (q0 h g b e (o==2) false ((j.drop (c.toNat*3)).take 3))) none) none) none) none) none) none) none) none) none) none) none)
def AR:=(shut fun N a f i d c r0=>DW (R:=R) N r0 (fun h g b e=>Vd N r0 h f a g b d e) a f i d c).1
def SR(a f i d c r0):(@AR R N a f i d c r0)=(DW N r0 (fun h g b e=>Vd N r0 h f a g b d e) a f i d c):=by rw[AR,(shut _).2]
def X_:Hints:={H:=hK 5 (hS (hS (hJ [3,7,8,9,10,11,37] hL hL) hL) hL)}
def fH:Oe:=[Aa7 N,T8 N,VE N,Ll N,O7 N]
def wO(F:KF R):=Iv Tryz.f65 X_ (fH N) [] N F
def wQ(h f:Bool)(a:LA)(g:Bool)(b:LA)(d:Bool)(e:LA)(K:St->O R):=fun m n l=>K ⟨[(3,op 0),(7,.bool h),(8,op 1),(9,.bool m),(10,op 2),(11,op 3),(37,.bool n)],hq [bP f 0 a,bP g 0 b,bP d 0 l,bQ 0 e]⟩
def kE(F:KF R)(h f a g b d e):wQ h f a g b d e (A1 (wO N F (pz 87361) []))=(Vd N (Bu F) h f a g b d e):=by kernel_rfl
def Aa8:=Cc N 65 (fH N) X_ (fun
|[.pagg a f,.pagg i d,.int .i64 c],[]=>some fun _ k=>AR N a f i d c (Bu k)
| _,_=>none) fun _ _=>by split;intro R F;exact(B6 (DW N (Bu F) · _ _ _ _ _) (Aoq fun h g b e=>(jW ..).trans (kE ..)):_).trans (SR ..).symm;trivial
def Ve(r0:Int->Int->O R)(c:Int)(d:Bool)(a:LA)(f:Bool)(b:LA)(k1:Int->LA->O R)(g:Int)(h:LA):O R:=(cond (decide (g<c)) (cond (ble 22 a.length) (cond (ble 2 h.length) (Dd 1 b fun l m=>cond (Ab g m) (Aj .i64 (l.drop (g.toNat*1)) fun o=>HN N (a.take 22) d g (h.take 2) false o fun i p=>cond ((beq i.length 2)&&((ble 2 2)&&(!false))) (cond (!p) (r0 g 16) (cond (ble 22 a.length) (cond (ble 3 b.length) (LP N (a.take 22) d (b.take 3) f g fun q=>cond (!q) (r0 g 3) (cond (ble 22 a.length) (cond (ble 3 b.length) (AR N (a.take 22) d (b.take 3) f g fun r=>cond (!r) (r0 g 64) (cond (ble 2 ((setCells [Bbr,Bbr] 0 i).length)) (cond ((beq (((setCells [Bbr,Bbr] 0 i).take 2).length) 2)&&((ble 2 h.length)&&(!false))) (k1 (wrap .i64 (g+1)) (setCells h 0 ((setCells [Bbr,Bbr] 0 i).take 2))) none) none)) none) none)) none) none)) none) none) none) none) (r0 c 0))
def N4(r0:Int->Int->O R)(c:Int)(d:Bool)(a:LA)(f:Bool)(b:LA):Nat->Int->LA->O R
|0=>fun _ _=>none
|n+1=>Ve N r0 c d a f b (N4 r0 c d a f b n)
def FU(r0:Int->Int->O R)(c:Int)(d:Bool)(a:LA)(f:Bool)(b:LA)(q1:Int->LA->O R):O R:=(cond (ble 22 a.length) (Mo N (a.take 22) d fun j=>cond ((beq j.length 2)&&((ble 2 2)&&(!false))) (q1 0 (setCells [Bbr,Bbr] 0 j)) none) none)
def Ym(r0:Int->Int->O R)(c:Int)(d:Bool)(a:LA)(f:Bool)(b:LA):O R:=FU N r0 c d a f b (N4 N r0 c d a f b N)
def LR(r0:Int->Int->O R)(q0:O R)(a:LA)(d:Bool)(c:Int)(b:LA)(f:Bool):O R:=(cond (ble 22 a.length) (Qn N (a.take 22) d c fun s=>cond (!s) (r0 0 1) (Dd 1 b fun w t=>cond (((t:Int) != c)==false) (Dd 3 (b.drop 1) fun x u=>cond ((cond false true ((u:Int) != c))==false) (Dd 3 (b.drop 2) fun y v=>cond (cond false true ((v:Int) != c)) (r0 0 4) q0) (r0 0 4)) (r0 0 4))) none)
def Y8:=(shut fun N a d c b f r0=>LR (R:=R) N r0 (Ym N r0 c d a f b) a d c b f).1
def YA(a d c b f r0):(@Y8 R N a d c b f r0)=(LR N r0 (Ym N r0 c d a f b) a d c b f):=by rw[Y8,(shut _).2]
def fI:Hints:={H:=hK 2 (hJ [1,3,5] hL (hK 1 (hS (hK 1 (hS (hP [1,3,5,8,9] hL) hL)) hL)))}
def nM:Oe:=[DD N,U6 N,sZ N,Aa6 N,Aa8 N]
def fJ(F:KF R):=Iv Tryz.f26 fI (nM N) [] N F
def Aa9(c:Int)(d:Bool)(a:LA)(f:Bool)(b:LA)(K:St->O R):=fun g h=>K ⟨[(1,iv c),(3,op 0),(5,op 1),(8,op 2),(9,iv g)],hq [bP d 0 a,bP f 0 b,bQ 0 h]⟩
def Aba(c:Int)(d:Bool)(a:LA)(f:Bool)(b:LA)(K:St->O R):=K ⟨[(1,iv c),(3,op 0),(5,op 1)],hq [bP d 0 a,bP f 0 b]⟩
def oz(F:KF R)(c d a f b):∀ n,Aa9 c d a f b (Ao (fJ N F (pz 21828) []) n)=(N4 N (zX F) c d a f b n):=Gu fun n e=>(B6 (Ve N (zX F) c d a f b) e:_)
def pA(F:KF R)(c d a f b):Aba c d a f b (A1 (fJ N F (pz 85) []))=(Ym N (zX F) c d a f b):=(B6 (FU N (zX F) c d a f b) ((lW ..).trans (oz ..)):_)
def nN:=Cc N 26 (nM N) fI (fun
|[.pagg a d,.int .i64 c,.pagg b f],[]=>some fun _ k=>Y8 N a d c b f (zX k)
| _,_=>none) fun _ _=>by split;intro R F;exact(B6 (LR N (zX F) · _ _ _ _ _) ((jW ..).trans (pA ..)):_).trans (YA ..).symm;trivial
end
end Gx
namespace Gx
open Go Go.Proofs
section
variable{R:Type}
def Y9(x:RatD):take 3 x.av=x.av:=rfl
def b3(x:RatD):ble 3 (List.length x.av)=true:=rfl
def c3(x:RatD):((beq 0 0)&&((beq (List.length x.av) 3)&&(beq 3 3)))=true:=rfl
def Axp(x:RatD):((beq (List.length x.av) 3)&&(true&&(!false)))=true:=rfl
def Ant(x y:RatD):setCells x.av 0 y.av=y.av:=rfl
section
variable{N:Nat}{X:O R}{K:LA->O R}{x y:RatD}{o o':Bool}{p q:Rat}
def ST(k:x.can p)(D:y.can q)(I:fit (8*(qm p+qm q)+40) N)(h:∀ d:RatD,d.can (p+q)->K d.av=X):Pv N x.av o y.av o' K=X:=by
 obtain⟨d,G,e⟩:=yJ (R:=R) (N:=N) (o:=o) (o':=o') k.ok D.ok (by rw[k.m,D.m];exact I)
 rw[e];exact h d (by rw[k.q,D.q]at G;exact G)
def kF(k:x.can p)(D:y.can q)(I:fit (8*(qm p+qm q)+40) N)(h:∀ d:RatD,d.can (p - q)->K d.av=X):Wn N x.av o y.av o' K=X:=by
 obtain⟨d,G,e⟩:=yK (R:=R) (N:=N) (o:=o) (o':=o') k.ok D.ok (by rw[k.m,D.m];exact I)
 rw[e];exact h d (by rw[k.q,D.q]at G;exact G)
def SU(k:x.can p)(D:y.can q)(I:fit (8*(qm p+qm q)+40) N)(h:∀ d:RatD,d.can (p*q)->K d.av=X):Oj N x.av o y.av o' K=X:=by
 obtain⟨d,G,e⟩:=kC (R:=R) (N:=N) (o:=o) (o':=o') k.ok D.ok (by rw[k.m,D.m];exact I)
 rw[e];exact h d (by rw[k.q,D.q]at G;exact G)
def D0{v:Int}(k:-9223372036854775808<=v/\v<=9223372036854775807)(hN:4<=N)(h:∀ d:RatD,d.can (v:Rat)->K d.av=X):A7 N v K=X:=by
 obtain⟨d,D,e⟩:=wL (R:=R) (N:=N) k hN
 rw[e];exact h d D
end
def Atn{q:Rat}:decide (q.num.sign<=0)=decide (q<=0):=by
 have e:q<=0↔q.num<=0:=by
  rw[A7k,<-A9g,A6g,A79,Rat.neg_num];omega
 rw[decide_eq_decide,e]
 rcases A6k q.num 0 with h|h|h
 ·rw[A3u h];omega
 ·rw[h];simp
 ·rw[A4j h];omega
def qi{v:Int}(h:-9223372036854775808<=v/\v<=9223372036854775807):qm (v:Rat)<=2:=Av8 (by omega)
def Dy:Rat->List SegD->Rat
|_,[]=>0
|Gq,s::r=>if Gq<=0 then 0 else(s.price:Rat)*(if Gq<=(s.width:Rat)then Gq else(s.width:Rat))+Dy (Gq - (if Gq<=(s.width:Rat)then Gq else(s.width:Rat))) r
def Av9(l:List SegD):Prop:=∀ s∈l,-1048576<=s.width/\s.width<=1048576/\-1048576<=s.price/\s.price<=1048576
def RatD.is(x:RatD)(q:Rat)(m:Nat):Prop:=x.ok/\x.q=q/\x.m<=m
def RatD.can.is{x:RatD}{q:Rat}{m:Nat}(h:x.can q)(k:qm q<=m):x.is q m:=⟨h.ok,h.q,by rw[h.m];exact k⟩
def Ae9:RatD:=⟨false,.nil,.nil⟩
def p9{m:Nat}:Ae9.is 0 m:=by
 refine⟨⟨?_,?_⟩,?_,?_⟩
 ·intro x k;simp[Ae9,LS.l]at k
 ·intro x k;simp[Ae9,LS.l]at k
 ·simp[Ae9,RatD.q,LS.l,Au,val]
 ·simp[Ae9,RatD.m,LS.l]
def RatD.is.qm{x:RatD}{q:Rat}{m:Nat}(h:x.is q m):qm q<=m+1:=by
 have:=XZ x h.1
 rw[h.2.1]at this;have:=h.2.2;omega
section
variable{N:Nat}{X:O R}{K:LA->O R}{K':Int->O R}{x y:RatD}{o o':Bool}{p q:Rat}{m n:Nat}
def Ato(k:x.is p m)(D:y.is q n)(I:fit (8*(m+n)+40) N)(h:∀ d:RatD,d.can (p - q)->K d.av=X):Wn N x.av o y.av o' K=X:=by
 obtain⟨d,G,e⟩:=yK (R:=R) (N:=N) (o:=o) (o':=o') k.1 D.1 (I.le (by have:=k.2.2;have:=D.2.2;omega))
 rw[e];exact h d (by rw[k.2.1,D.2.1]at G;exact G)
def Atp(k:x.is p m)(D:y.is q n)(G:fit (4*(m+n)+10) N):Ih N x.av o y.av o' K'=K' (HR p q):=by rw[XX k.1 D.1 (G.le (by have:=k.2.2;have:=D.2.2;omega)),k.2.1,D.2.1]
def Afa(k:x.is p m)(D:y.is q n)(G:fit (16*(m+n)+100) N):Dv N x.av o y.av o' K'=K' (HR p q):=by rw[AM k.1 D.1 (G.le (by have:=k.2.2;have:=D.2.2;omega)),k.2.1,D.2.1]
def Aqy(k:x.is p m)(D:y.is q n)(G:fit (16*(m+n)+100) N):Va N x.av o y.av o' K=K (bO (p - q)).av:=by rw[tY k.1 D.1 (G.le (by have:=k.2.2;have:=D.2.2;omega)),k.2.1,D.2.1];rfl
def Afb(k:x.is p m)(D:y.is q n)(G:fit (16*(m+n)+80) N):Nz N x.av o y.av o' K=K (bO (p+q)).av:=by rw[tX k.1 D.1 (G.le (by have:=k.2.2;have:=D.2.2;omega)),k.2.1,D.2.1];rfl
def Awa(k:x.is p m)(D:y.is q n)(G:fit (16*(m+n)+80) N):LH N x.av o y.av o' K=K (bO (p*q)).av:=by rw[Air k.1 D.1 (G.le (by have:=k.2.2;have:=D.2.2;omega)),k.2.1,D.2.1];rfl
def Az6(k:x.is p m)(D:y.is q n)(G:fit (16*(m+n)+100) N):e_ N x.av o y.av o' K=K (bO (if p<=q then p else q)).av:=by rw[Ais k.1 D.1 (G.le (by have:=k.2.2;have:=D.2.2;omega)),k.2.1,D.2.1];rfl
def AS{v:Int}(k:-9223372036854775808<=v/\v<=9223372036854775807)(hN:4000<=N):B4 N v K=K (bO (v:Rat)).av:=tZ k hN
end
def It{q:Rat}{m:Nat}(h:qm q<=m):(bO q).is q m:=(p8 q).is h
def Atq{v:Int}(h:-9223372036854775808<=v/\v<=9223372036854775807):(bO (v:Rat)).is v 2:=It (qi h)
def Aiu{p q:Rat}:decide (HR p q>=0)=decide (q<=p):=by
 rw[decide_eq_decide];unfold HR
 by_cases h:p<q
 ·rw[if_pos h];simp[A8d.2 h]
 ·rw[if_neg h];have:=A81.1 h;simp only[this,iff_true];split<;>omega
def kG{p q:Rat}:decide (HR p q<=0)=decide (p<=q):=by rw[decide_eq_decide];exact pZ
def Axq(p:Rat)(lo hi:Int):Bool:=decide ((lo:Rat)<=p)&&decide (p<=(hi:Rat))
def Afc{N:Nat}{K:Bool->O R}{x:RatD}{p:Rat}{m:Nat}{o:Bool}{lo hi:Int}(k:x.is p m)(D:-9223372036854775808<=lo/\lo<=9223372036854775807)(G:-9223372036854775808<=hi/\hi<=9223372036854775807)(I:fit (16*(m+2)+100) N)(hN:4000<=N):LO N x.av o lo hi K=K (Axq p lo hi):=by
 rw[SM];unfold SL
 rw[b3,ct,Y9,AS D hN,Afa k (Atq D) I,Aiu,AS G hN,Afa k (Atq G) I,kG]
 unfold Axq;cases decide ((lo:Rat)<=p)<;>rfl
end
end Gx
namespace Gx
open Go Go.Proofs
set_option maxRecDepth 100000
noncomputable section
variable{R:Type}(N:Nat)
def R3(N:Nat)(r0:Bool->O R)(d:LA)(a:Nat)(f g:Bool)(c:LA)(b:Nat)(h i:Bool)(k0:Int->O R)(j:Int):O R:=(cond (decide (j<(a:Int))) (cond (Ab j b) (Aj .i64 (c.drop (j.toNat*1)) fun l=>cond ((l != (-1))==true) (cond (Ab j b) (Aj .i64 (c.drop (j.toNat*1)) fun m=>cond (Ab j a) (Aj .i64 (d.drop (j.toNat*1)) fun o=>cond (cond true (m != o) false) (r0 false) (k0 (wrap .i64 (j+1)))) none) none) (k0 (wrap .i64 (j+1)))) none) (r0 true))
def Gn(r0:Bool->O R)(d:LA)(a:Nat)(f g:Bool)(c:LA)(b:Nat)(h i:Bool):Nat->Int->O R
|0=>fun _=>none
|n+1=>R3 N r0 d a f g c b h i (Gn r0 d a f g c b h i n)
def DX(N:Nat)(r0:Bool->O R)(q0:Int->O R)(d:LA)(a:Nat)(f g:Bool)(c:LA)(b:Nat)(h i:Bool):O R:=(cond ((a:Int) != (b:Int)) (r0 false) (q0 0))
def AT:=(shut fun N d a f g c b h i r0=>DX (R:=R) N r0 (Gn N r0 d a f g c b h i N) d a f g c b h i).1
def SV(d a f g c b h i r0):(@AT R N d a f g c b h i r0)=(DX N r0 (Gn N r0 d a f g c b h i N) d a f g c b h i):=by rw[AT,(shut _).2]
def YB:Hints:={H:=hK 2 (hS (hK 1 (hS (hP [0,1,5] hL) hL)) hL)}
def wR(F:KF R):=Iv Tryz.f19 YB [] [] N F
def wT(d:LA)(a:Nat)(f g:Bool)(c:LA)(b:Nat)(h i:Bool)(K:St->O R):=fun j=>K ⟨[(0,.imm d a 1 f g),(1,.imm c b 1 h i),(5,iv j)],[]⟩
def kH(F:KF R)(d a f g c b h i):∀ n,wT d a f g c b h i (Ao (wR N F (pz 1348) []) n)=(Gn N (Bu F) d a f g c b h i n):=Gu fun n e=>(B6 (R3 N (Bu F) d a f g c b h i) e:_)
def Abb:=Cc N 19 [] YB (fun
|[.imm d a 1 f g,.imm c b 1 h i],[]=>some fun _ k=>AT N d a f g c b h i (Bu k)
| _,_=>none) fun _ _=>by split;intro R F;exact(B6 (DX N (Bu F) · _ _ _ _ _ _ _ _) ((lW ..).trans (kH ..)):_).trans (SV ..).symm;trivial
def Wr(N:Nat)(r0:Bool->O R)(d:Nat)(b:Bool)(a c:LA)(k0:Int->O R)(g:Int):O R:=(cond (decide (g<(d:Int))) (cond (Ab g d) (cond (ble 2 ((c.drop (0+(g.toNat*2))).length)) (cond (ble 2 a.length) (cond ((!b)||(Bb (a.take 2))) (cond ((ble 1 2)&&((beq (((c.drop (0+(g.toNat*2))).take 2).length) 2)&&((beq ((a.take 2).length) 2)&&(true&&(!false))))) (Aj .i64 ((c.drop (0+(g.toNat*2))).take 2) fun l=>Aj .i64 (a.take 2) fun m=>Aj .i64 (((c.drop (0+(g.toNat*2))).take 2).drop 1) fun o=>Aj .i64 ((a.take 2).drop 1) fun p=>cond ((l==m)&&((o==p)&&true)) (r0 true) (k0 (wrap .i64 (g+1)))) none) none) none) none) none) (r0 false))
def Jd(r0:Bool->O R)(d:Nat)(b:Bool)(a c:LA):Nat->Int->O R
|0=>fun _=>none
|n+1=>Wr N r0 d b a c (Jd r0 d b a c n)
def Yn(r0:Bool->O R)(q0:Nat->LA->Int->O R)(h:LA)(i:Bool)(f:LA)(j:Bool)(a:LA)(b:Bool):O R:=(cond (ble 22 h.length) (cond (ble 2 f.length) (cond ((!j)||(Bb (f.take 2))) (RT N (h.take 22) i (f.take 2) false fun d c=>q0 d c 0) none) none) none)
def DY:=(shut fun N h i f j a b r0=>Yn (R:=R) N r0 (fun d c=>Jd N r0 d b a c N) h i f j a b).1
def OI(h i f j a b r0):(@DY R N h i f j a b r0)=(Yn N r0 (fun d c=>Jd N r0 d b a c N) h i f j a b):=by rw[DY,(shut _).2]
def SW:Hints:={H:=hK 2 (hS (hK 1 (hS (hP [5,7,8] hL) hL)) hL)}
def YC:Oe:=[sV N]
def tp(F:KF R):=Iv Tryz.f211 SW (YC N) [] N F
def tq(d:Nat)(b:Bool)(a c:LA)(K:St->O R):=fun g=>K ⟨[(5,op 0),(7,Bbq 1 d),(8,iv g)],hq [bP b 0 a,bQ 2 c]⟩
def fK(F:KF R)(d b a c):∀ n,tq d b a c (Ao (tp N F (pz 1348) []) n)=(Jd N (Bu F) d b a c n):=Gu fun n e=>(B6 (Wr N (Bu F) d b a c) e:_)
def wU:=Cc N 211 (YC N) SW (fun
|[.pagg h i,.pagg f j,.pagg a b],[]=>some fun _ k=>DY N h i f j a b (Bu k)
| _,_=>none) fun _ _=>by split;intro R F;exact(B6 (Yn N (Bu F) · _ _ _ _ _ _) (rD fun d c=>(lW ..).trans (fK ..)):_).trans (OI ..).symm;trivial
def AU(a:LA)(d:Bool)(b:LA)(e:Bool)(c:LA)(f:Bool)(r0:Int->O R):O R:=(cond (ble 22 a.length) (cond (ble 2 b.length) (cond ((!e)||(Bb (b.take 2))) (cond (ble 2 c.length) (cond ((!f)||(Bb (c.take 2))) (DY N (a.take 22) d (b.take 2) false (c.take 2) false fun g=>cond ((!g)==false) (Aj .i64 b fun h=>cond ((cond false true (h != 0))==false) (Aj .i64 c fun i=>cond (cond false true (i==0)) (r0 0) (Aj .i64 (b.drop 1) fun j=>Aj .i64 (a.drop 15) fun l=>cond (decide (j<=l)) (Aj .i64 (a.drop 13) fun m=>r0 m) (Aj .i64 (a.drop 14) fun n=>r0 n))) (r0 0)) (r0 0)) none) none) none) none) none)
def Vf:=(shut (@AU R)).1
def DZ:@Vf R=@AU R:=(shut _).2
def pB:=Cc N 168 [wU N] D5 (fun
|[.pagg a d,.pagg b e,.pagg c f],[]=>some fun _ k=>Vf N a d b e c f (Ee k)
| _,_=>none) fun _ _=>by split;intro R F;dsimp only;rw[DZ];kernel_rfl;trivial
def Kd(r0:Int->O R)(d:Nat)(b:Bool)(a c:LA)(k0:Int->Int->LA->O R)(m f:Int)(l:LA):O R:=(cond (decide (f<(d:Int))) (cond (ble 22 a.length) (cond (ble 2 l.length) (cond (Ab f d) (cond (ble 2 ((c.drop (0+(f.toNat*2))).length)) (Vf N (a.take 22) b (l.take 2) false ((c.drop (0+(f.toNat*2))).take 2) false fun p=>cond (Ab f d) (cond (ble 2 ((c.drop (0+(f.toNat*2))).length)) (cond ((beq (((c.drop (0+(f.toNat*2))).take 2).length) 2)&&((ble 2 l.length)&&(!false))) (k0 (wrap .i64 (m+p)) (wrap .i64 (f+1)) (setCells l 0 ((c.drop (0+(f.toNat*2))).take 2))) none) none) none) none) none) none) none) (r0 m))
def Er(r0:Int->O R)(d:Nat)(b:Bool)(a c:LA):Nat->Int->Int->LA->O R
|0=>fun _ _ _=>none
|n+1=>Kd N r0 d b a c (Er r0 d b a c n)
def Pm(r0:Int->O R)(q0:Nat->LA->Int->Int->LA->O R)(a:LA)(b:Bool)(g:LA)(h:Nat)(j i:Bool):O R:=(cond (ble 22 a.length) (Vo N (a.take 22) b g h false i fun d q r c=>cond (ble 22 a.length) (Mo N (a.take 22) b fun o=>cond ((beq o.length 2)&&((ble 2 2)&&(!false))) (q0 d c 0 0 (setCells [Bbr,Bbr] 0 o)) none) none) none)
def Mx:=(shut fun N a b g h j i r0=>Pm (R:=R) N r0 (fun d c=>Er N r0 d b a c N) a b g h j i).1
def AW(a b g h j i r0):(@Mx R N a b g h j i r0)=(Pm N r0 (fun d c=>Er N r0 d b a c N) a b g h j i):=by rw[Mx,(shut _).2]
def D_:Hints:={H:=hK 3 (hS (hK 1 (hS (hP [2,5,8,9,10] hL) hL)) hL)}
def HV:Oe:=[KU N,U6 N,pB N]
def fL(F:KF R):=Iv Tryz.f101 D_ (HV N) [] N F
def fM(d:Nat)(b:Bool)(a c:LA)(K:St->O R):=fun m f l=>K ⟨[(2,op 0),(5,Bbq 1 d),(8,op 2),(9,iv m),(10,iv f)],hq [bP b 0 a,bQ 2 c,bQ 0 l]⟩
def SX(F:KF R)(d b a c):∀ n,fM d b a c (Ao (fL N F (pz 5444) []) n)=(Er N (Ee F) d b a c n):=Gu fun n e=>(B6 (Kd N (Ee F) d b a c) e:_)
def kI:=Cc N 101 (HV N) D_ (fun
|[.pagg a b,.imm g h 1 j i],[]=>some fun _ k=>Mx N a b g h j i (Ee k)
| _,_=>none) fun _ _=>by split;intro R F;exact(B6 (Pm N (Ee F) · _ _ _ _ _ _) (rD fun d c=>(lW ..).trans (SX ..)):_).trans (AW ..).symm;trivial
def Pn(r0:LA->O R)(b:Bool)(a:LA)(k0:Int->LA->LA->O R)(f:Int)(g c:LA):O R:=(Dd 2 (a.drop 4) fun ab p=>cond (decide (f<(p:Int))) (cond (ble 3 g.length) (Dd 2 (a.drop 4) fun q r=>cond (Ab f r) (Aj .i64 (q.drop (f.toNat*2)) fun s=>B4 N s fun t=>e_ N (g.take 3) false t false fun i=>cond ((beq 0 0)&&((beq i.length 3)&&(beq 3 3))) (cond (ble 3 c.length) (cond (ble 3 i.length) (Dd 2 (a.drop 4) fun u v=>cond (Ab f v) (Aj .i64 ((u.drop (f.toNat*2)).drop 1) fun w=>B4 N w fun x=>LH N (i.take 3) false x false fun y=>Nz N (c.take 3) false y false fun j=>cond ((beq j.length 3)&&((ble 3 c.length)&&(!false))) (cond (ble 3 g.length) (cond (ble 3 i.length) (Va N (g.take 3) false (i.take 3) false fun l=>cond ((beq l.length 3)&&((ble 3 g.length)&&(!false))) (k0 (wrap .i64 (f+1)) (setCells g 0 l) (setCells c 0 j)) none) none) none) none) none) none) none) none) none) none) (cond (ble 3 c.length) (cond ((beq 0 0)&&((beq ((c.take 3).length) 3)&&(beq 3 3))) (cond (ble 3 ((c.take 3).length)) (r0 ((c.take 3).take 3)) none) none) none))
def He(r0:LA->O R)(b:Bool)(a:LA):Nat->Int->LA->LA->O R
|0=>fun _ _ _=>none
|n+1=>Pn N r0 b a (He r0 b a n)
def Yo(r0:LA->O R)(q0:Int->LA->LA->O R)(a:LA)(b:Bool)(d:LA)(h:Bool):O R:=(cond (ble 3 d.length) (Aj .i64 (a.drop 2) fun z=>B4 N z fun aa=>Va N (d.take 3) h aa false fun m=>HD N fun o=>cond ((beq 0 0)&&((beq m.length 3)&&(beq 3 3))) (cond ((beq 0 0)&&((beq o.length 3)&&(beq 3 3))) (q0 0 m o) none) none) none)
def Vs:=(shut fun N a b d h r0=>Yo (R:=R) N r0 (He N r0 b a N) a b d h).1
def OJ(a b d h r0):(@Vs R N a b d h r0)=(Yo N r0 (He N r0 b a N) a b d h):=by rw[Vs,(shut _).2]
def SY:Hints:={H:=hK 2 (hS (hK 1 (hS (hP [2,4,5,6,7] hL) hL)) hL),modes:=[(3,0)]}
def YD:Oe:=[Ll N,VE N,ZR N,Ani N,j7 N,T8 N]
def tt(F:KF R):=Iv Tryz.f78 SY (YD N) [] N F
def tz(b:Bool)(a:LA)(K:St->O R):=fun f g c=>K ⟨[(2,op 0),(4,op 1),(5,op 2),(6,op 3),(7,iv f)],hq [bP b 0 a,bN 0 [.bool false,.nsl,.nsl],bQ 0 g,bQ 0 c]⟩
def fN(F:KF R)(b a):∀ n,tz b a (Ao (tt N F (pz 1348) []) n)=(He N (Dx F) b a n):=Gu fun n e=>(B6 (Pn N (Dx F) b a) e:_)
def wV:=Cc N 78 (YD N) SY (fun
|[.pagg a b,.pagg d h],[]=>some fun _ k=>Vs N a b d h (Dx k)
| _,_=>none) fun _ _=>by split;intro R F;exact(B6 (Yo N (Dx F) · _ _ _ _) ((lW ..).trans (fN ..)):_).trans (OJ ..).symm;trivial
def Yp(r0:LA->Int->O R)(f:Int)(d:Bool)(a:LA)(c:Bool)(b:LA)(k0:Int->LA->O R)(g:Int)(h:LA):O R:=(cond (decide (g<f)) (Dd 1 b fun p q=>cond (Ab g q) (Aj .i64 (p.drop (g.toNat*1)) fun r=>cond (r==2) (cond (ble 3 h.length) (Aj .i64 (a.drop 5) fun s=>B4 N s fun t=>Nz N (h.take 3) false t false fun u=>cond (ble 22 a.length) (Dd 3 (b.drop 1) fun i v=>cond (Ab g v) (cond (ble 3 ((i.drop (g.toNat*3)).length)) (Vs N (a.take 22) d ((i.drop (g.toNat*3)).take 3) c fun w=>Aj .i64 (a.drop 17) fun x=>B4 N x fun y=>Dd 3 (b.drop 2) fun j z=>cond (Ab g z) (cond (ble 3 ((j.drop (g.toNat*3)).length)) (LH N y false ((j.drop (g.toNat*3)).take 3) c fun aa=>Nz N w false aa false fun ab=>Nz N u false ab false fun l=>cond ((beq l.length 3)&&((ble 3 h.length)&&(!false))) (k0 (wrap .i64 (g+1)) (setCells h 0 l)) none) none) none) none) none) none) none) (k0 (wrap .i64 (g+1)) h)) none) (cond (ble 3 h.length) (cond ((beq 0 0)&&((beq ((h.take 3).length) 3)&&(beq 3 3))) (cond (ble 3 ((h.take 3).length)) (r0 ((h.take 3).take 3) 0) none) none) none))
def My(r0:LA->Int->O R)(f:Int)(d:Bool)(a:LA)(c:Bool)(b:LA):Nat->Int->LA->O R
|0=>fun _ _=>none
|n+1=>Yp N r0 f d a c b (My r0 f d a c b n)
def VH(r0:LA->Int->O R)(q0:Int->LA->O R)(a:LA)(d:Bool)(f:Int)(b:LA)(c:Bool):O R:=(cond (ble 22 a.length) (cond (ble 3 b.length) (Y8 N (a.take 22) d f (b.take 3) c fun af m=>cond (m != 0) (r0 [.bool false,.nsl,.nsl] m) (cond (ble 22 a.length) (Dd 1 b fun ac ad=>Mx N (a.take 22) d ac ad false c fun ae=>B4 N ae fun o=>cond ((beq 0 0)&&((beq o.length 3)&&(beq 3 3))) (q0 0 o) none) none)) none) none)
def SZ:=(shut fun N a d f b c r0=>VH (R:=R) N r0 (My N r0 f d a c b N) a d f b c).1
def fO(a d f b c r0):(@SZ R N a d f b c r0)=(VH N r0 (My N r0 f d a c b N) a d f b c):=by rw[SZ,(shut _).2]
def nO:Hints:={H:=hK 4 (hS (hK 1 (hS (hP [1,3,5,6,10,11] hL) hL)) hL),modes:=[(3,0),(0,0)]}
def uA:Oe:=[nN N,kI N,Ll N,T8 N,wV N,j7 N]
def Afd(F:KF R):=Iv Tryz.f45 nO (uA N) [] N F
def Afe(f:Int)(d:Bool)(a:LA)(c:Bool)(b:LA)(K:St->O R):=fun g h=>K ⟨[(1,iv f),(3,op 0),(5,op 1),(6,op 2),(10,op 3),(11,iv g)],hq [bP d 0 a,bP c 0 b,bN 0 [.bool false,.nsl,.nsl],bQ 0 h]⟩
def uB(F:KF R)(f d a c b):∀ n,Afe f d a c b (Ao (Afd N F (pz 21828) []) n)=(My N (rG F) f d a c b n):=Gu fun n e=>(B6 (Yp N (rG F) f d a c b) e:_)
def Aiv:=Cc N 45 (uA N) nO (fun
|[.pagg a d,.int .i64 f,.pagg b c],[]=>some fun _ k=>SZ N a d f b c (rG k)
| _,_=>none) fun _ _=>by split;intro R F;exact(B6 (VH N (rG F) · _ _ _ _ _) ((lW ..).trans (uB ..)):_).trans (fO ..).symm;trivial
def Vg(r0:LA->Int->O R)(e:LA)(c:Nat)(i f:Bool)(g:LA)(d:Nat)(j h b:Bool)(a l:LA):O R:=(Dd 3 (a.drop 1) fun t u=>VF N e c false f t u false b fun p y=>cond ((beq 0 0)&&((beq p.length 3)&&(beq 3 3))) (Dd 3 (a.drop 2) fun v w=>VF N g d false h v w false b fun q z=>cond ((beq 0 0)&&((beq q.length 3)&&(beq 3 3))) (cond (ble 3 p.length) (cond (ble 3 q.length) (Nz N (p.take 3) false (q.take 3) false fun x=>cond (ble 3 l.length) (Va N x false (l.take 3) false fun r=>cond ((beq 0 0)&&((beq r.length 3)&&(beq 3 3))) (cond (ble 3 r.length) (r0 (r.take 3) 0) none) none) none) none) none) none) none)
def EA(r0:LA->Int->O R)(q0:LA->O R)(n:LA)(o:Bool)(m:Int)(a:LA)(b:Bool)(e:LA)(c:Nat)(i f:Bool)(g:LA)(d:Nat)(j h:Bool):O R:=(cond (ble 22 n.length) (cond (ble 3 a.length) (SZ N (n.take 22) o m (a.take 3) b fun l s=>cond ((beq 0 0)&&((beq l.length 3)&&(beq 3 3))) (cond (s != 0) (r0 [.bool false,.nsl,.nsl] s) (cond (((c:Int) != m)==false) (cond (cond false true ((d:Int) != m)) (r0 [.bool false,.nsl,.nsl] 4) (q0 l)) (r0 [.bool false,.nsl,.nsl] 4))) none) none) none)
def AX:=(shut fun N n o m a b e c i f g d j h r0=>EA (R:=R) N r0 (fun l=>Vg N r0 e c i f g d j h b a l) n o m a b e c i f g d j h).1
def S_(n o m a b e c i f g d j h r0):(@AX R N n o m a b e c i f g d j h r0)=(EA N r0 (fun l=>Vg N r0 e c i f g d j h b a l) n o m a b e c i f g d j h):=by rw[AX,(shut _).2]
def YE:Hints:={H:=hK 3 (hJ [3,4,7,10,12] hL hL),modes:=[(3,0),(0,0)]}
def fQ:Oe:=[Aiv N,Anj N,T8 N,VE N]
def wW(F:KF R):=Iv Tryz.f20 YE (fQ N) [] N F
def wX(e:LA)(c:Nat)(i f:Bool)(g:LA)(d:Nat)(j h b:Bool)(a l:LA)(K:St->O R):=K ⟨[(3,.imm e c 3 i f),(4,.imm g d 3 j h),(7,op 0),(10,op 1),(12,op 2)],hq [bP b 0 a,bN 0 [.bool false,.nsl,.nsl],bQ 0 l]⟩
def kJ(F:KF R)(e c i f g d j h b a l):wX e c i f g d j h b a l (A1 (wW N F (pz 341) []))=(Vg N (rG F) e c i f g d j h b a l):=by kernel_rfl
def Abc:=Cc N 20 (fQ N) YE (fun
|[.pagg n o,.int .i64 m,.pagg a b,.imm e c 3 i f,.imm g d 3 j h],[]=>some fun _ k=>AX N n o m a b e c i f g d j h (rG k)
| _,_=>none) fun _ _=>by split;intro R F;exact(B6 (EA N (rG F) · _ _ _ _ _ _ _ _ _ _ _ _ _) (vQ fun l=>(jW ..).trans (kJ ..)):_).trans (S_ ..).symm;trivial
end
end Gx
namespace Gx
open Go Go.Proofs
section
variable{R:Type}
def fS:Rat->List SegD->Rat
|_,[]=>0
|Gq,s::r=>(if Gq<=(s.width:Rat)then Gq else(s.width:Rat))*(s.price:Rat)+fS (Gq - (if Gq<=(s.width:Rat)then Gq else(s.width:Rat))) r
def uC:∀{l:List SegD},(∀ s∈l,0<=s.width)->fS 0 l=0
|[],_=>rfl
| s::r,h=>by
  have k:(0:Rat)<=(s.width:Rat):=by
   have:=h s (by simp);exact_mod_cast this
  rw[fS,if_pos k,Rat.zero_mul,A7f,uC fun s hs=>h s (by simp[hs]),A6e]
def Aff:∀{l:List SegD}{p:Rat},(∀ s∈l,0<=s.width)->0<=p->fS p l=Dy p l
|[],_,_,_=>rfl
| s::r,p,h,D=>by
  have I:(0:Rat)<=(s.width:Rat):=by
   have:=h s (by simp);exact_mod_cast this
  rw[Dy]
  by_cases k:p<=0
  ·have:p=0:=A6z k D
   subst this
   rw[if_pos A37,uC h]
  ·rw[if_neg k,fS,Rat.mul_comm,Aff (fun s hs=>h s (by simp[hs]))]
   split
   ·rw[A7f];exact A37
   ·rename_i G
    exact(A7k _ _).1 (A7e (A8d.1 G))
def Aqz{N:Nat}{K:LA->O R}{u:UnitD}{d:Bool}{A:Nat}(hl:Av9 u.segs.l)(h8:u.segs.l.length<=8)(hA:2<=A)(L:fit (200*A+12000) N)(hN:4000<=N):∀(m j D:Nat)(p q:Rat),j+m=u.segs.l.length->m<D->qm p<=A+3*j->qm q<=2+j*(A+31) ->
  He N K d u.av D (j:Int) (bO p).av (bO q).av=K (bO (q+fS p (u.segs.l.drop j))).av:=by
 intro m
 induction m with
|zero =>
  intro j D p q hj T _ _
  obtain⟨D,rfl⟩:∃ k,D=k+1:=⟨D - 1,by omega⟩
  rw[He];unfold Pn
  rw[u4,Rc (by omega),cf,Jx (l:=u.segs.l) (by omega),fS,A6e];rfl
| succ m ih =>
  intro j D p q hj T hp hq
  obtain⟨D,rfl⟩:∃ k,D=k+1:=⟨D - 1,by omega⟩
  rw[He];unfold Pn
  have h:j<u.segs.l.length:=by omega
  have Y:j<=8:=by omega
  have hr:=hl u.segs.l[j] (A24 h)
  have hjA:j*(A+31)<=8*(A+31):=A2x _ Y
  rw[u4,Ox h,ct]
  simp only[b3,Y9,ct,u4]
  rw[Aa h,ct,jV h,Aw,AS (by omega) hN]
  have hqw:=qi (v:=u.segs.l[j].width) (by omega)
  have hqp:=qi (v:=u.segs.l[j].price) (by omega)
  rw[Az6 (It hp) (It hqw) (L.le (by omega))]
  rw[Fg h,fS]
  generalize I:(if p<=(u.segs.l[j].width:Rat)then p else(u.segs.l[j].width:Rat))=part
  have G:qm part<=A+3*j:=by rw[<-I];split<;>omega
  simp only[b3,Y9,c3,ct]
  rw[show ∀ r:LA,drop 1 ((AV.int .i64 u.segs.l[j].width)::(AV.int .i64 u.segs.l[j].price)::r)=(AV.int .i64 u.segs.l[j].price)::r from fun _=>rfl,Aw,AS (by omega) hN]
  rw[Awa (It G) (It hqp) (L.le (by omega))]
  have hqt:qm (part*(u.segs.l[j].price:Rat))<=2+(A+3*j):=by have:=Kb part (u.segs.l[j].price:Rat);omega
  rw[Afb (It hq) (It hqt) (L.le (by omega))]
  rw[Axp,ct,Aqy (It hp) (It G) (L.le (by omega)),Axp,ct,Ant,Ant,wS (by omega)]
  have hqa:qm (q+part*(u.segs.l[j].price:Rat))<=2+(j+1)*(A+31):=by
   have:=Fz q (part*(u.segs.l[j].price:Rat))
   rw[A23];omega
  have hqs:qm (p - part)<=A+3*(j+1):=by
   rw[<-I]
   split
   ·rw[A7f]
    have:qm ((0:Int):Rat)<=2:=qi (by omega)
    have e:((0:Int):Rat)=0:=rfl
    rw[e]at this;omega
   ·have:=Om p (u.segs.l[j].width:Rat);omega
  rw[ih (j+1) D _ _ (by omega) (by omega) hqs hqa,Rat.add_assoc]
def Abd{N:Nat}{K:LA->O R}{u:UnitD}{x:RatD}{o o':Bool}{p:Rat}{m:Nat}(D:x.is p m)(G:Av9 u.segs.l)(I:u.segs.l.length<=8)(L:-1048576<=u.min/\u.min<=1048576)(k:fit (200*(m+8)+12000) N)(hN:4000<=N):
  Vs N u.av o x.av o' K=K (bO (fS (p - (u.min:Rat)) u.segs.l)).av:=by
 rw[OJ];unfold Yo
 rw[b3,ct,Y9,u2,AS (by omega) hN,Aqy D (Atq (by omega)) (k.le (by omega)),aI,c3,ct,show cq 0=(bO 0).av from rfl,c3,ct]
 have hq:qm (p - (u.min:Rat))<=m+4:=by have:=Om p (u.min:Rat);have:=D.qm;have:=qi (v:=u.min) (by omega);omega
 have T:qm (0:Rat)<=2:=qi (v:=0) (by omega)
 have:=Aqz (K:=K) (d:=o) (A:=m+4) G I (by omega) (k.le (by omega)) hN u.segs.l.length 0 N (p - (u.min:Rat)) 0 (by omega) (by have:=k.1;omega) (by omega) (by omega)
 rw[A3m,A79]at this
 exact this
def E6{u:UnitD}{h:Int}(k:A4 u h=true):(0<=u.min/\u.min<=1048576)/\(0<=u.max/\u.max<=1048576)/\u.min<=u.max:=by
 simp only[A4,A2y,Im,decide_eq_true_eq]at k
 exact⟨k.2.2.1,k.2.2.2.1,k.2.2.2.2.2.2.2.1⟩
def Hf{u:UnitD}{h:Int}(k:A4 u h=true):u.segs.l.length<=8/\Hz (-1048576) u.segs.l=true/\Kw u.segs.l=u.max - u.min:=by
 simp only[A4,A2y]at k
 have:=k.2.2.2.2.2.2.2.2.2.2.2.2.2.2.2.1
 simpa[mU]using this
def p_:∀{l:List SegD}{p:Int},Hz p l=true->(∀ s∈l,1<=s.width/\s.width<=1048576/\-1048576<=s.price/\s.price<=1048576)
|[],_,_,_,hs=>by simp at hs
|a::r,p,h,s,hs=>by
  simp only[Hz,A2y,Im,decide_eq_true_eq]at h
  rcases A28.1 hs with rfl|hs
  ·omega
  ·exact p_ h.2.2.2 s hs
def VI{u:UnitD}{h:Int}(k:A4 u h=true):Av9 u.segs.l:=fun s hs=>by have:=p_ (Hf k).2.1 s hs;omega
def uD{A:Nat}:∀(l:List SegD)(p:Rat),Av9 l->2<=A->qm p<=A->qm (Dy p l)<=2+l.length*(A+3*l.length+31)
|[],p,_,_,_=>by
  have:qm (0:Rat)<=2:=qi (v:=0) (by omega)
  rw[Dy];simpa using this
| s::r,p,hs,hA,hp=>by
  have hr:=hs s (by simp)
  have L:=qi (v:=s.width) (by omega)
  have T:=qi (v:=s.price) (by omega)
  have h0:qm (0:Rat)<=2:=qi (v:=0) (by omega)
  rw[Dy]
  split
  ·omega
  ·generalize k:(if p<=(s.width:Rat)then p else(s.width:Rat))=part
   have G:qm part<=A:=by rw[<-k];split<;>omega
   have D:qm (p - part)<=A+3:=by
    rw[<-k];split
    ·rw[A7f];omega
    ·have:=Om p (s.width:Rat);omega
   have Y:=uD (A:=A+3) r (p - part) (fun s I=>hs s (by simp[I])) (by omega) D
   have h2:=Kb (s.price:Rat) part
   have h3:=Fz ((s.price:Rat)*part) (Dy (p - part) r)
   rw[A3a]
   have:A+3+3*r.length+31=A+3*(r.length+1)+31:=by omega
   rw[this]at Y
   rw[A23];omega
end
end Gx
namespace Gx
open Go Go.Proofs
def Aq0:Rat->List SegD->Bool×Rat
|_,[]=>(false,0)
|t,s::r=>cond (decide (0<=t)&&decide (t<(s.width:Rat))) (true,(s.price:Rat)) (Aq0 (t - (s.width:Rat)) r)
def Anu:Rat->List SegD->Bool×Rat
|_,[]=>(false,0)
|t,s::r=>cond (decide (0<t)&&decide (t<=(s.width:Rat))) (true,(s.price:Rat)) (Anu (t - (s.width:Rat)) r)
def Ayf(l:List SegD):Prop:=∀ s∈l,(0:Rat)<(s.width:Rat)
def Aq1:∀{l:List SegD}{t:Rat},Ayf l->t<=0->(Anu t l).1=false
|[],_,_,_=>rfl
|s::r,t,h,k=>by
  rw[Anu,decide_eq_false (by grind),A5u,cond_false]
  exact Aq1 (fun s hs=>h s (by simp[hs])) (by have:=h s (by simp);grind)
def uE(a b:Int):((a+b:Int):Rat)=(a:Rat)+(b:Rat):=A3y a b
def Akw{p:Int}{l:List SegD}(h:Hz p l=true):Ayf l:=fun s hs=>by
 have:=p_ h s hs
 have k:(0:Int)<s.width:=by omega
 exact Rat.intCast_pos.2 k
def EB{p:Int}{s:SegD}{r:List SegD}(h:Hz p (s::r)=true):(p:Rat)<=(s.price:Rat)/\Hz s.price r=true/\(0:Rat)<(s.width:Rat):=by
 have k:=Akw h s (by simp)
 simp only[Hz,A2y,decide_eq_true_eq]at h
 exact⟨A3n.2 h.2.2.1,h.2.2.2,k⟩
def EC{w:Rat}{s:SegD}{r:List SegD}{t:Rat}(D:w=(s.width:Rat))(G:0<=t)(I:t<=w):Dy t (s::r)=(s.price:Rat)*t:=by
 subst D
 rw[Dy]
 by_cases k:t<=0
 ·have:t=0:=A6z k G
  subst this;simp
 ·rw[if_neg k,if_pos I,A7f]
  have:Dy 0 r=0:=by cases r with
   |nil=>rfl
   |cons a b=>rw[Dy,if_pos A37]
  rw[this,A6e]
def LU{s:SegD}{r:List SegD}{t:Rat}(G:(0:Rat)<(s.width:Rat))(D:(s.width:Rat)<=t):Dy t (s::r)=(s.price:Rat)*(s.width:Rat)+Dy (t - (s.width:Rat)) r:=by
 rw[Dy,if_neg (by grind)]
 by_cases k:t<=(s.width:Rat)
 ·have:t=(s.width:Rat):=A6z k D
  rw[if_pos k,this]
 ·rw[if_neg k]
def yM(l:List SegD):Dy 0 l=0:=by cases l with
|nil=>rfl
|cons a b=>rw[Dy,if_pos A37]
def Akx:∀{l:List SegD}{p:Int}{t:Rat},Hz p l=true->0<=t->t<=(Kw l:Rat)->(p:Rat)*t<=Dy t l
|[],p,t,_,k,D=>by
  have:t=0:=A6z (by simpa[Kw]using D) k
  subst this;simp[Dy]
| s::r,p,t,h,k,D=>by
  obtain⟨G,hr,I⟩:=EB h
  by_cases L:t<=(s.width:Rat)
  ·rw[EC rfl k L];exact A41 G k
  ·have T:(s.width:Rat)<=t:=by grind
   rw[LU I T]
   rw[Kw,uE]at D
   have Y:=Akx hr (t:=t - (s.width:Rat)) (by grind) (by grind)
   have:=A41 G k
   grind
def Auy:∀{l:List SegD}{p:Int}{t:Rat},Hz p l=true->(Aq0 t l).1=true->(p:Rat)<=(Aq0 t l).2
|[],_,_,_,h=>by cases h
| s::r,p,t,h,k=>by
  obtain⟨D,hr,G⟩:=EB h
  rw[Aq0]at k ⊢
  cases hc:(decide (0<=t)&&decide (t<(s.width:Rat)))with
  |true=>rw[hc]at k;simpa using D
  |false =>
   rw[hc]at k
   have:=Auy hr k
   simp only[cond_false]
   grind
def Auz:∀{l:List SegD}{p:Int}{t:Rat},Hz p l=true->(Anu t l).1=true->(p:Rat)<=(Anu t l).2
|[],_,_,_,h=>by cases h
| s::r,p,t,h,k=>by
  obtain⟨D,hr,G⟩:=EB h
  rw[Anu]at k ⊢
  cases hc:(decide (0<t)&&decide (t<=(s.width:Rat)))with
  |true=>rw[hc]at k;simpa using D
  |false =>
   rw[hc]at k
   have:=Auz hr k
   simp only[cond_false]
   grind
def Afg:∀{l:List SegD}{p:Int}{t s:Rat},Hz p l=true->0<=t->t<s->s<=(Kw l:Rat)->(Aq0 t l).1=true/\(Aq0 t l).2*(s - t)<=Dy s l - Dy t l
|[],p,t,s,_,k,T,D=>by simp[Kw]at D;grind
| a::r,p,t,s,h,k,T,D=>by
  obtain⟨hp,hr,G⟩:=EB h
  rw[Kw,uE]at D
  rw[Aq0]
  by_cases I:t<(a.width:Rat)
  ·rw[decide_eq_true k,decide_eq_true I]
   refine⟨rfl,?_⟩
   show(a.price:Rat)*(s - t)<=_
   rw[EC rfl k (A7e I)]
   by_cases Y:s<=(a.width:Rat)
   ·rw[EC rfl (by grind) Y];grind
   ·rw[LU G (by grind)]
    have:=Akx hr (t:=s - (a.width:Rat)) (by grind) (by grind)
    grind
  ·rw[decide_eq_false I,A6n,cond_false,LU G (show(a.width:Rat)<=t by grind),LU G (show(a.width:Rat)<=s by grind)]
   have L:=Afg hr (t:=t - (a.width:Rat)) (s:=s - (a.width:Rat)) (by grind) (by grind) (by grind)
   exact⟨L.1,by have:=L.2;grind⟩
def uF:∀{l:List SegD}{p:Int}{t s:Rat},Hz p l=true->0<=s->s<t->t<=(Kw l:Rat)->(Anu t l).1=true/\(Anu t l).2*(s - t)<=Dy s l - Dy t l
|[],p,t,s,_,D,T,G=>by simp[Kw]at G;grind
| a::r,p,t,s,h,D,T,G=>by
  obtain⟨hp,hr,L⟩:=EB h
  rw[Kw,uE]at G
  rw[Anu]
  by_cases I:t<=(a.width:Rat)
  ·rw[decide_eq_true (show 0<t by grind),decide_eq_true I]
   refine⟨rfl,?_⟩
   show(a.price:Rat)*(s - t)<=_
   rw[EC rfl (by grind) I,EC rfl D (by grind)];grind
  ·rw[decide_eq_false I,A6n,cond_false,LU L (show(a.width:Rat)<=t by grind)]
   by_cases Y:(a.width:Rat)<=s
   ·rw[LU L Y]
    have k:=uF hr (t:=t - (a.width:Rat)) (s:=s - (a.width:Rat)) (by grind) (by grind) (by grind)
    exact⟨k.1,by have:=k.2;grind⟩
   ·have h5:s<=(a.width:Rat):=by grind
    rw[EC rfl D h5]
    have k:=uF hr (t:=t - (a.width:Rat)) (s:=0) A37 (by grind) (by grind)
    refine⟨k.1,?_⟩
    have h6:=Auz hr k.1
    have h7:=A41 h6 (show 0<=(a.width:Rat) - s by grind)
    have h8:=k.2
    rw[yM]at h8
    grind
def Au0:∀{l:List SegD}{p:Int}{t:Rat},Hz p l=true->(Anu t l).1=true->(Aq0 t l).1=true->(Anu t l).2<=(Aq0 t l).2
|[],_,_,_,h,_=>by cases h
| a::r,p,t,h,k,G=>by
  obtain⟨L,hr,T⟩:=EB h
  rw[Anu]at k ⊢
  rw[Aq0]at G ⊢
  by_cases I:t<(a.width:Rat)
  ·by_cases D:0<t
   ·rw[decide_eq_true D,decide_eq_true (show t<=(a.width:Rat) by grind),decide_eq_true (show 0<=t by grind),decide_eq_true I]
    exact A37
   ·exfalso
    rw[decide_eq_false D,A5u,cond_false,Aq1 (Akw hr) (by grind)]at k;cases k
  ·rw[decide_eq_false I,A6n,cond_false]at G ⊢
   by_cases D:t<=(a.width:Rat)
   ·rw[decide_eq_true (show 0<t by grind),decide_eq_true D]
    exact Auy hr G
   ·rw[decide_eq_false D,A6n,cond_false]at k ⊢
    exact Au0 hr k G
end Gx
namespace Gx.Uo
open Go Go.Proofs
def Anv{l:List SegD}{p:Int}(h:Hz p l=true):Conc (fun t=>-Dy t l) 0 (Kw l:Rat):=by
 have key:∀ x z s:Rat,0<=x->x<=(Kw l:Rat)->0<=z->z<=(Kw l:Rat)->0<=s->s<=1->x<z->(1 - s)*-Dy x l+s*-Dy z l<=-Dy ((1 - s)*x+s*z) l:=fun x z s D I L G Y h6 hxz=>by
  by_cases e0:s=0
  ·subst e0;rw[show(1 - (0:Rat))*x+0*z=x by grind];grind
  by_cases e1:s=1
  ·subst e1;rw[show(1 - (1:Rat))*x+1*z=z by grind];grind
  have s0:0<s:=by grind
  have s1:0<1 - s:=by grind
  have hm:0<z - x:=by grind
  have a1:0<s*(z - x):=Rat.mul_pos s0 hm
  have a2:0<(1 - s)*(z - x):=Rat.mul_pos s1 hm
  generalize T:(1 - s)*x+s*z=m
  have m1:x<m:=by grind
  have m2:m<z:=by grind
  obtain⟨b1,b2⟩:=Afg h (t:=m) (s:=z) (by grind) m2 G
  obtain⟨c1,c2⟩:=uF h (t:=m) (s:=x) D m1 (by grind)
  have lh:=Au0 h c1 b1
  generalize (Aq0 m l).2=g at *
  generalize (Anu m l).2=k at *
  have d1:=ml lh (show 0<=m - x by grind)
  have d2:g*(x - m)<=Dy x l - Dy m l:=by grind
  have d3:=ml d2 (show 0<=1 - s by grind)
  have d4:=ml b2 (show 0<=s by grind)
  have d5:(1 - s)*(g*(x - m))+s*(g*(z - m))=0:=by rw[<-T];grind
  grind
 intro x z s D I L G Y h6
 by_cases e:x<z
 ·exact key x z s D I L G Y h6 e
 ·by_cases e2:z<x
  ·have:=key z x (1 - s) L G D I (by grind) (by grind) e2
   rw[show(1 - (1 - s))*z+(1 - s)*x=(1 - s)*x+s*z by grind]at this
   show(1 - s)*-Dy x l+s*-Dy z l<=-Dy ((1 - s)*x+s*z) l
   grind
  ·have:x=z:=by grind
   subst this
   show(1 - s)*-Dy x l+s*-Dy x l<=-Dy ((1 - s)*x+s*x) l
   rw[show(1 - s)*x+s*x=x by grind];grind
def Conc.shift{f:F1}{a b c:Rat}(h:Conc f a b):Conc (fun x=>f (x - c)) (a+c) (b+c):=fun x z s G I L T k D=>by
 have:=h (x - c) (z - c) s (by grind) (by grind) (by grind) (by grind) k D
 rw[show(1 - s)*(x - c)+s*(z - c)=(1 - s)*x+s*z - c by grind]at this
 exact this
def Abe(mn:Int)(l:List SegD):F1:=fun x=>-Dy (x - mn) l
def Anw:List SegD->Int->Rat->Hk->Hk
|[],_,_,L=>L
|s::r,x,v,L=>Anw r (x+s.width) (v - s.width*s.price) (JB L (x+s.width) (v - s.width*s.price))
def Aq2{f:F1}{a:Int}:∀(r:List SegD)(p x:Int)(v:Rat)(L:Hk),Hz p r=true->Upto f L a x->(∀ t:Rat,0<=t->t<=(Kw r:Rat)->f (x+t)=v - Dy t r)->Upto f (Anw r x v L) a (x+Kw r)
|[],_,x,_,L,_,u,_=>by rw[Anw,Kw,Int.add_zero];exact u
| s::r,p,x,v,L,h,u,D=>by
  obtain⟨_,k,G⟩:=EB h
  have I:0<s.width:=A6f.1 G
  have sw:(Kw (s::r):Rat)=(s.width:Rat)+(Kw r:Rat):=by rw[Kw,A3y]
  have sr:(0:Rat)<=(Kw r:Rat):=by
   have:∀(r:List SegD)(p:Int),Hz p r=true->(0:Rat)<=(Kw r:Rat):=by
    intro r
    induction r with
    |nil=>intro _ _;exact A37
    |cons a r T =>
     intro p h
     obtain⟨_,k,G⟩:=EB h
     have:=T _ k
     rw[Kw,A3y];grind
   exact this r _ k
  have fw:f ((x+s.width:Int):Rat)=v - s.width*s.price:=by
   rw[A3y,D _ (by grind) (by grind),EC rfl (by grind) A37];grind
  have u2:=u.add (x:=x+s.width) (by omega) ⟨-(s.price:Rat),v+s.price*x,fun t Y k2=>by
   rw[A3y]at k2
   have:=D (t - x) (by grind) (by grind)
   rw[EC (w:=s.width) rfl (by grind) (by grind)]at this
   rw[show(x:Rat)+(t - x)=t by grind]at this
   rw[this];grind⟩
  rw[fw]at u2
  have:=Aq2 r s.price (x+s.width) (v - s.width*s.price) _ k u2 fun t Y k2=>by
   have:=D (s.width+t) (by grind) (by grind)
   rw[LU G (by grind),show(s.width:Rat)+t - s.width=t by grind]at this
   rw[A3y,show(x:Rat)+s.width+t=x+(s.width+t) by grind,this];grind
  rw[Anw,Kw,show x+(s.width+Kw r)=x+s.width+Kw r by omega]
  exact this
def yN{mn mx p:Int}{l:List SegD}(h:Hz p l=true)(hs:Kw l=mx - mn):Upto (Abe mn l) (Anw l mn 0 [(mn,0)]) mn mx/\Conc (Abe mn l) mn mx:=by
 have z:Abe mn l mn=0:=by unfold Abe;rw[show(mn:Rat) - mn=0 by grind,yM];grind
 constructor
 ·have u0:Upto (Abe mn l) [(mn,0)] mn mn:=by
   have:=Cv.one (Abe mn l) mn
   rw[z]at this
   exact⟨this,rfl,rfl⟩
  have:=Aq2 l p mn 0 [(mn,0)] h u0 fun t _ _=>by unfold Abe;rw[show(mn:Rat)+t - mn=t by grind];grind
  rwa [hs,show mn+(mx - mn)=mx by omega]at this
 ·have:=(Anv h).shift (c:=mn)
  rw[hs,A3i,show((mx:Rat) - mn)+mn=mx by grind,show(0:Rat)+mn=mn by grind]at this
  exact this
end Gx.Uo
namespace Gx
open Go Go.Proofs
set_option maxRecDepth 100000
noncomputable section
variable{R:Type}(N:Nat)
def LV(N:Nat)(r0:LA->Nat->O R)(c:Bool)(b:LA)(d:Bool)(a:LA)(f:Bool)(e:LA):O R:=(cond f (r0 (take 4 ((e.take 2)++[.int .i64 1,.int .i64 1])) 2) (Aj .i64 (a.drop 1) fun l=>Aj .i64 (b.drop 11) fun m=>cond (decide (l>=m)) (r0 (take 4 ((e.take 2)++[.int .i64 2,.int .i64 1])) 2) (r0 (e.take 2) 1)))
def fT(r0:LA->Nat->O R)(q0:Bool->LA->O R)(b:LA)(c:Bool)(a:LA)(d:Bool):O R:=(cond (ble 22 b.length) (cond (ble 2 a.length) (cond ((!d)||(Bb (a.take 2))) (Hy N (b.take 22) c (a.take 2) false fun n=>cond (decide (n<0)) (r0 [] 0) (cond (ble 22 b.length) (KG N (b.take 22) c fun h i=>Aj .i64 a fun g=>cond (g==0) (Aj .i64 (a.drop 1) fun j=>Aj .i64 (a.drop 1) fun o=>Aj .i64 (b.drop 11) fun p=>cond ((decide (o>=p))==true) (Aj .i64 (b.drop 12) fun q=>q0 (cond true (decide (q>0)) false) [Bbr,.int .i64 (Cn (wrap .i64 (j+1)) h)]) (q0 false [Bbr,.int .i64 (Cn (wrap .i64 (j+1)) h)])) (cond (g==1) (Aj .i64 (a.drop 1) fun r=>Aj .i64 (b.drop 12) fun s=>cond (decide (r<s)) (Aj .i64 (a.drop 1) fun t=>r0 [.int .i64 1,.int .i64 (wrap .i64 (t+1))] 1) (r0 [.int .i64 2,.int .i64 1] 1)) (cond (g==2) (Aj .i64 (a.drop 1) fun u=>Aj .i64 (b.drop 10) fun v=>cond (decide (u>=v)) (Aj .i64 (a.drop 1) fun w=>r0 [Bbr,.int .i64 1,.int .i64 2,.int .i64 (Cn (wrap .i64 (w+1)) i)] 2) (Aj .i64 (a.drop 1) fun x=>r0 [.int .i64 2,.int .i64 (Cn (wrap .i64 (x+1)) i)] 1)) (r0 [] 0)))) none)) none) none) none)
def LW:=(shut fun N b c a d r0=>fT (R:=R) N r0 (LV N r0 c b d a) b c a d).1
def nP(b c a d r0):(@LW R N b c a d r0)=(fT N r0 (LV N r0 c b d a) b c a d):=by rw[LW,(shut _).2]
def uG:Hints:={H:=hK 4 (hS (hK 1 (hS (hK 1 (hS (hK 1 (hJ [2,3,7,39] hL hL)) hL)) hL)) hL),nils:=[(4,2),(7,2)],modes:=[(1,2)]}
def yO:Oe:=[FL N,UY N]
def Aiw(F:KF R):=Iv Tryz.f109 uG (yO N) [] N F
def aS(F:KF R):LA->Nat->O R:=fun y z=>F (.imm y z 2 false false) []
def Aix(c:Bool)(b:LA)(d:Bool)(a:LA)(K:St->O R):=fun f e=>K ⟨[(2,op 0),(3,op 1),(7,Bbq 2 1),(39,.bool f)],hq [bP c 0 b,bP d 0 a,bQ 2 e]⟩
def wY(F:KF R)(c b d a):Aix c b d a (A1 (Aiw N F (pz 5588037) []))=(LV N (aS F) c b d a):=by kernel_rfl
def kK:=Cc N 109 (yO N) uG (fun
|[.pagg b c,.pagg a d],[]=>some fun _ k=>LW N b c a d (aS k)
| _,_=>none) fun _ _=>by split;intro R F;exact(B6 (fT N (aS F) · _ _ _ _) ((jW ..).trans (wY ..)):_).trans (nP ..).symm;trivial
def R4(N:Nat)(b:LA)(d c:Bool)(a:LA)(r0:Bool->O R):O R:=(cond (ble 2 b.length) (cond ((!d)||(Bb (b.take 2))) (cond (ble 2 a.length) (cond ((!c)||(Bb (a.take 2))) (cond ((ble 1 2)&&((beq ((b.take 2).length) 2)&&((beq ((a.take 2).length) 2)&&(true&&(!false))))) (Aj .i64 (b.take 2) fun e=>Aj .i64 (a.take 2) fun f=>Aj .i64 ((b.take 2).drop 1) fun g=>Aj .i64 ((a.take 2).drop 1) fun h=>r0 ((e==f)&&((g==h)&&true))) none) none) none) none) none)
def N5:=(shut (@R4 R)).1
def Vt:@N5 R=@R4 R:=(shut _).2
def aT:=Cc N 171 [] D5 (fun
|[.pagg b d,.optr 100000 0],[(100000,⟨false,false,true,c,0,a,false,none⟩)]=>some fun _ k=>N5 N b d c a (Auj c a k)
| _,_=>none) fun _ _=>by split;intro R F;dsimp only;rw[Vt];kernel_rfl;trivial
def Cd(r0:Int->O R)(c:LA)(d:Nat)(g f a:Bool)(b:LA)(k0:Int->Int->O R)(i h:Int):O R:=(cond (decide (h<i)) (cond (Ab h d) (cond (ble 2 ((c.drop (h.toNat*2)).length)) (cond ((!f)||(Bb ((c.drop (h.toNat*2)).take 2))) (N5 N ((c.drop (h.toNat*2)).take 2) false a b fun j=>cond j (r0 h) (k0 i (wrap .i64 (h+1)))) none) none) none) (r0 (-1)))
def Ay(r0:Int->O R)(c:LA)(d:Nat)(g f a:Bool)(b:LA):Nat->Int->Int->O R
|0=>fun _ _=>none
|n+1=>Cd N r0 c d g f a b (Ay r0 c d g f a b n)
def Bn(N:Nat)(r0:Int->O R)(q0:Int->Int->O R)(c:LA)(d:Nat)(g f a:Bool)(b:LA):O R:=(q0 (d:Int) 0)
def Bt:=(shut fun N c d g f a b r0=>Bn (R:=R) N r0 (Ay N r0 c d g f a b N) c d g f a b).1
def D1(c d g f a b r0):(@Bt R N c d g f a b r0)=(Bn N r0 (Ay N r0 c d g f a b N) c d g f a b):=by rw[Bt,(shut _).2]
def D9:Hints:={H:=hK 1 (hS (hK 1 (hS (hP [0,1,7,8] hL) hL)) hL)}
def Eh:Oe:=[aT N]
def Je(F:KF R):=Iv Tryz.f212 D9 (Eh N) [100000] N F
def Bj(a:Bool)(b:LA)(F:KF R):Int->O R:=fun l=>F (iv l) [(100000,bP a 0 b)]
def Jf(c:LA)(d:Nat)(g f a:Bool)(b:LA)(K:St->O R):=fun i h=>K ⟨[(0,.imm c d 2 g f),(1,.fn 171 [.optr 100000 0]),(7,iv i),(8,iv h)],[(100000,bP a 0 b)]⟩
def H1(F:KF R)(c d g f a b):∀ n,Jf c d g f a b (Ao (Je N F (pz 324) []) n)=(Ay N (Bj a b F) c d g f a b n):=Gu fun n e=>(B6 (Cd N (Bj a b F) c d g f a b) e:_)
def Js:=Cc N 212 (Eh N) D9 (fun
|[.imm c d 2 g f,.fn 171 [.optr 100000 0]],[(100000,⟨false,false,true,a,0,b,false,none⟩)]=>some fun _ k=>Bt N c d g f a b (Bj a b k)
| _,_=>none) fun _ _=>by split;rename_i c d g f a b;intro R F;exact(B6 (Bn N (Bj a b F) · c d g f a b) ((lW ..).trans (H1 ..)):_).trans (D1 ..).symm;trivial
def Ce(c:LA)(d:Nat)(f e a:Bool)(b:LA)(r0:Bool->O R):O R:=(Bt N c d false e a b fun g=>r0 (decide (g>=0)))
def Ci:=(shut (@Ce R)).1
def Di:@Ci R=@Ce R:=(shut _).2
def Iq:=Cc N 172 [Js N] D5 (fun
|[.imm c d 2 f e,.fn 171 [.optr 100000 0]],[(100000,⟨false,false,true,a,0,b,false,none⟩)]=>some fun _ k=>Ci N c d f e a b (Auj a b k)
| _,_=>none) fun _ _=>by split;intro R F;dsimp only;rw[Di];kernel_rfl;trivial
def FV(a:LA)(d:Bool)(b:LA)(e:Bool)(c:LA)(f:Bool)(r0:Int->O R):O R:=(Aj .i64 b fun g=>cond ((g != 0)==false) (Aj .i64 c fun h=>cond ((cond false true (h==0))==false) (cond (ble 22 a.length) (cond (ble 2 b.length) (cond ((!e)||(Bb (b.take 2))) (LW N (a.take 22) d (b.take 2) false fun i j=>Ci N i j false false f c fun l=>cond (cond false true (!l)) (r0 0) (Aj .i64 (b.drop 1) fun m=>Aj .i64 (a.drop 15) fun n=>cond (decide (m<=n)) (Aj .i64 (a.drop 13) fun o=>r0 o) (Aj .i64 (a.drop 14) fun p=>r0 p))) none) none) none) (r0 0)) (r0 0))
def Yq:=(shut (@FV R)).1
def HW:@Yq R=@FV R:=(shut _).2
def uH:=Cc N 110 [kK N,Iq N] D5 (fun
|[.pagg a d,.pagg b e,.pagg c f],[]=>some fun _ k=>Yq N a d b e c f (Ee k)
| _,_=>none) fun _ _=>by split;intro R F;dsimp only;rw[HW];kernel_rfl;trivial
def Hi(N:Nat)(r0:Int->O R)(b:LA)(a:Nat)(d f:Bool)(c:Int)(k0:Int->Int->O R)(h g:Int):O R:=(cond (decide (g<h)) (cond (Ab g a) (Aj .i64 (b.drop (g.toNat*1)) fun i=>cond (c==i) (r0 g) (k0 h (wrap .i64 (g+1)))) none) (r0 (-1)))
def Da(r0:Int->O R)(b:LA)(a:Nat)(d f:Bool)(c:Int):Nat->Int->Int->O R
|0=>fun _ _=>none
|n+1=>Hi N r0 b a d f c (Da r0 b a d f c n)
def Ke(N:Nat)(r0:Int->O R)(q0:Int->Int->O R)(b:LA)(a:Nat)(d f:Bool)(c:Int):O R:=(q0 (a:Int) 0)
def Lz:=(shut fun N b a d f c r0=>Ke (R:=R) N r0 (Da N r0 b a d f c N) b a d f c).1
def S7(b a d f c r0):(@Lz R N b a d f c r0)=(Ke N r0 (Da N r0 b a d f c N) b a d f c):=by rw[Lz,(shut _).2]
def Vu:Hints:={H:=hK 1 (hS (hK 1 (hS (hP [0,1,7,8] hL) hL)) hL)}
def TA(F:KF R):=Iv Tryz.f235 Vu [] [] N F
def TB(b:LA)(a:Nat)(d f:Bool)(c:Int)(K:St->O R):=fun h g=>K ⟨[(0,.imm b a 1 d f),(1,iv c),(7,iv h),(8,iv g)],[]⟩
def HX(F:KF R)(b a d f c):∀ n,TB b a d f c (Ao (TA N F (pz 324) []) n)=(Da N (Ee F) b a d f c n):=Gu fun n e=>(B6 (Hi N (Ee F) b a d f c) e:_)
def VU:=Cc N 235 [] Vu (fun
|[.imm b a 1 d f,.int .i64 c],[]=>some fun _ k=>Lz N b a d f c (Ee k)
| _,_=>none) fun _ _=>by split;intro R F;exact(B6 (Ke N (Ee F) · _ _ _ _ _) ((lW ..).trans (HX ..)):_).trans (S7 ..).symm;trivial
def Lr(a:LA)(b:Nat)(e c:Bool)(d:Int)(r0:Bool->O R):O R:=(Lz N a b false c d fun f=>r0 (decide (f>=0)))
def Fh:=(shut (@Lr R)).1
def O8:@Fh R=@Lr R:=(shut _).2
def LX:=Cc N 213 [VU N] D5 (fun
|[.imm a b 1 e c,.int .i64 d],[]=>some fun _ k=>Fh N a b e c d (Bu k)
| _,_=>none) fun _ _=>by split;intro R F;dsimp only;rw[O8];kernel_rfl;trivial
def TC(b:LA)(c:Bool)(d a:Int)(r0:Bool->O R):O R:=(cond (a==0) (r0 true) (cond (a==1) (cond (a==1) (Dd 1 (b.drop 18) fun e f=>Fh N e f false c d fun g=>r0 (!g)) (r0 false)) (cond (a==2) (Dd 1 (b.drop 18) fun h i=>Fh N h i false c d fun j=>r0 (!j)) (r0 false))))
def Uc:=(shut (@TC R)).1
def TD:@Uc R=@TC R:=(shut _).2
def Abf:=Cc N 173 [LX N] D5 (fun
|[.pagg b c,.int .i64 d,.int .i64 a],[]=>some fun _ k=>Uc N b c d a (Bu k)
| _,_=>none) fun _ _=>by split;intro R F;dsimp only;rw[TD];kernel_rfl;trivial
def Ws(c y:Int)(a:LA)(b:Nat)(d g:Bool)(i j l m n o:Nat)(r t u v w x:LA)(s:RB)(r0:Bool->O R):O R:=(cond (Ab c b) (Aj .i64 (a.drop (c.toNat*1)) fun z=>cond ((z==(-1))==false) (cond (Ab c b) (Aj .i64 (a.drop (c.toNat*1)) fun aa=>cond ((cond false true (aa==y))==true) (Uc N (Amc s) (s.so||(s.ao||false)) c y fun ab=>r0 (cond true ab false)) (r0 false)) none) (Uc N (Amc s) (s.so||(s.ao||false)) c y fun ad=>r0 (cond true ad false))) none)
def Jg:=(shut (@Ws R)).1
def AY:@Jg R=@Ws R:=(shut _).2
def fU(a:LA)(b:Nat)(d g:Bool)(i j l m n o:Nat)(r t u v w x:LA)(s:RB)(F:KF R):Bool->O R:=fun ae=>F (.bool ae) [(100000,bN 0 [.optr 100001 0,.imm a b 1 d g,.own 100002 0 i,.own 100003 0 j,.own 100004 0 l,.own 100005 0 m,.own 100006 0 n,.own 100007 0 o,.nsl,.nsl,.nsl,.nsl,.nsl,.nsl,.nsl,.nsl,.nsl,.nsl,.nsl,.nsl,.nsl,.nsl,.nsl,.nsl,.nsl,.nsl,.nsl]),(100001,bN 0 (Zt 100007 s)),(100002,bQ 7 r),(100003,bQ 7 t),(100004,bQ 7 u),(100005,bQ 7 v),(100006,bQ 7 w),(100007,bQ 7 x),(100008,bQ 2 s.ka),(100009,bQ 2 s.kb),(100010,bQ 2 s.kc),(100011,bQ 2 s.kd),(100012,bQ 2 s.ke),(100013,bQ 2 s.kf)]
def aU:RB×LA×Nat×Bool×Bool×Nat×Nat×Nat×Nat×Nat×Nat×LA×LA×LA×LA×LA×LA->Ap
|(s,a,b,d,g,i,j,l,m,n,o,r,t,u,v,w,x)=>[(100000,⟨false,false,false,false,0,[.optr 100001 0,.imm a b 1 d g,.own 100002 0 i,.own 100003 0 j,.own 100004 0 l,.own 100005 0 m,.own 100006 0 n,.own 100007 0 o,.nsl,.nsl,.nsl,.nsl,.nsl,.nsl,.nsl,.nsl,.nsl,.nsl,.nsl,.nsl,.nsl,.nsl,.nsl,.nsl,.nsl,.nsl,.nsl],false,none⟩),(100001,Azf (Zt 100007 s)),(100002,⟨false,false,true,false,7,r,false,none⟩),(100003,⟨false,false,true,false,7,t,false,none⟩),(100004,⟨false,false,true,false,7,u,false,none⟩),(100005,⟨false,false,true,false,7,v,false,none⟩),(100006,⟨false,false,true,false,7,w,false,none⟩),(100007,⟨false,false,true,false,7,x,false,none⟩),(100008,zW 2 s.ka),(100009,zW 2 s.kb),(100010,zW 2 s.kc),(100011,zW 2 s.kd),(100012,zW 2 s.ke),(100013,zW 2 s.kf)]
def Es:Ap->Option (RB×LA×Nat×Bool×Bool×Nat×Nat×Nat×Nat×Nat×Nat×LA×LA×LA×LA×LA×LA)
|(100000,⟨false,false,false,false,0,[.optr 100001 0,.imm a b 1 d g,.own 100002 0 i,.own 100003 0 j,.own 100004 0 l,.own 100005 0 m,.own 100006 0 n,.own 100007 0 o,.nsl,.nsl,.nsl,.nsl,.nsl,.nsl,.nsl,.nsl,.nsl,.nsl,.nsl,.nsl,.nsl,.nsl,.nsl,.nsl,.nsl,.nsl,.nsl],false,none⟩)::af::(100002,⟨false,false,true,false,7,r,false,none⟩)::(100003,⟨false,false,true,false,7,t,false,none⟩)::(100004,⟨false,false,true,false,7,u,false,none⟩)::(100005,⟨false,false,true,false,7,v,false,none⟩)::(100006,⟨false,false,true,false,7,w,false,none⟩)::(100007,⟨false,false,true,false,7,x,false,none⟩)::ag::ah::ai::aj::ak::al::[]=>(Ax3 100001 100007 af).bind fun s=>(xR 100008 2 ag).bind fun am=>(xR 100009 2 ah).bind fun ap=>(xR 100010 2 ai).bind fun aq=>(xR 100011 2 aj).bind fun ar=>(xR 100012 2 ak).bind fun au=>(xR 100013 2 al).bind fun av=>some ({s with ka:=am,kb:=ap,kc:=aq,kd:=ar,ke:=au,kf:=av},a,b,d,g,i,j,l,m,n,o,r,t,u,v,w,x)
|_=>none
def E7{h:Ap}{p:RB×LA×Nat×Bool×Bool×Nat×Nat×Nat×Nat×Nat×Nat×LA×LA×LA×LA×LA×LA}(e:Es h=some p):h=aU p:=by
 unfold Es at e
 split at e
 ·obtain⟨s,q,f⟩:=ub e
  cases Ahs q
  obtain⟨_,q,e0⟩:=ub f
  cases Lq q
  obtain⟨_,q,e1⟩:=ub e0
  cases Lq q
  obtain⟨_,q,e2⟩:=ub e1
  cases Lq q
  obtain⟨_,q,e3⟩:=ub e2
  cases Lq q
  obtain⟨_,q,e4⟩:=ub e3
  cases Lq q
  obtain⟨_,q,e5⟩:=ub e4
  cases Lq q
  cases e5;rfl
 ·cases e
def HY:=Cc N 111 [Abf N] D5 (Asr Es fun
|[.optr 100000 0,.int .i64 c,.int .i64 y],p=>some fun _ k=>Jg N c y p.2.1 p.2.2.1 p.2.2.2.1 p.2.2.2.2.1 p.2.2.2.2.2.1 p.2.2.2.2.2.2.1 p.2.2.2.2.2.2.2.1 p.2.2.2.2.2.2.2.2.1 p.2.2.2.2.2.2.2.2.2.1 p.2.2.2.2.2.2.2.2.2.2.1 p.2.2.2.2.2.2.2.2.2.2.2.1 p.2.2.2.2.2.2.2.2.2.2.2.2.1 p.2.2.2.2.2.2.2.2.2.2.2.2.2.1 p.2.2.2.2.2.2.2.2.2.2.2.2.2.2.1 p.2.2.2.2.2.2.2.2.2.2.2.2.2.2.2.1 p.2.2.2.2.2.2.2.2.2.2.2.2.2.2.2.2 p.1 (fU p.2.1 p.2.2.1 p.2.2.2.1 p.2.2.2.2.1 p.2.2.2.2.2.1 p.2.2.2.2.2.2.1 p.2.2.2.2.2.2.2.1 p.2.2.2.2.2.2.2.2.1 p.2.2.2.2.2.2.2.2.2.1 p.2.2.2.2.2.2.2.2.2.2.1 p.2.2.2.2.2.2.2.2.2.2.2.1 p.2.2.2.2.2.2.2.2.2.2.2.2.1 p.2.2.2.2.2.2.2.2.2.2.2.2.2.1 p.2.2.2.2.2.2.2.2.2.2.2.2.2.2.1 p.2.2.2.2.2.2.2.2.2.2.2.2.2.2.2.1 p.2.2.2.2.2.2.2.2.2.2.2.2.2.2.2.2 p.1 k)
| _,_=>none) (Axi E7 fun _ p=>by obtain⟨s,a,b,d,g,i,j,l,m,n,o,r,t,u,v,w,x⟩:=p;split;intro R F;dsimp only;rw[AY];kernel_rfl;trivial)
def N7(N:Nat)(r0:LA->O R)(b:Int)(a:LA)(c:Nat)(k0:Int->Int->O R)(j d:Int):O R:=(cond (decide (d<j)) (cond (Ab d c) (cond (ble 2 ((a.drop (d.toNat*2)).length)) (cond ((beq (((a.drop (d.toNat*2)).take 2).length) 2)&&((ble 2 2)&&(!false))) (Aj .i64 (zS ((a.drop (d.toNat*2)).take 2)) fun l=>cond (l==b) (cond (ble 2 ((zS ((a.drop (d.toNat*2)).take 2)).length)) (cond ((beq (((zS ((a.drop (d.toNat*2)).take 2)).take 2).length) 2)&&((ble 2 2)&&(!false))) (cond (ble 2 ((zS ((zS ((a.drop (d.toNat*2)).take 2)).take 2)).length)) (r0 ((zS ((zS ((a.drop (d.toNat*2)).take 2)).take 2)).take 2)) none) none) none) (k0 j (wrap .i64 (d+1)))) none) none) none) (r0 [Bbr,Bbr]))
def F2(r0:LA->O R)(b:Int)(a:LA)(c:Nat):Nat->Int->Int->O R
|0=>fun _ _=>none
|n+1=>N7 N r0 b a c (F2 r0 b a c n)
def Vh(r0:LA->O R)(q0:LA->Nat->Int->Int->O R)(g:LA)(h:Bool)(f:LA)(i:Bool)(b:Int):O R:=(cond (ble 22 g.length) (cond (ble 2 f.length) (cond ((!i)||(Bb (f.take 2))) (LW N (g.take 22) h (f.take 2) false fun a c=>q0 a c (c:Int) 0) none) none) none)
def N8:=(shut fun N g h f i b r0=>Vh (R:=R) N r0 (fun a c=>F2 N r0 b a c N) g h f i b).1
def HZ(g h f i b r0):(@N8 R N g h f i b r0)=(Vh N r0 (fun a c=>F2 N r0 b a c N) g h f i b):=by rw[N8,(shut _).2]
def OK:Hints:={H:=hK 1 (hS (hK 1 (hS (hP [2,6,11,12,13] hL) hL)) hL),modes:=[(3,0)]}
def TE:Oe:=[kK N]
def pC(F:KF R):=Iv Tryz.f174 OK (TE N) [] N F
def pD(b:Int)(a:LA)(c:Nat)(K:St->O R):=fun j d=>K ⟨[(2,iv b),(6,op 0),(11,.imm a c 2 false false),(12,iv j),(13,iv d)],hq [bQ 0 [iv 0,iv 0]]⟩
def aV(F:KF R)(b a c):∀ n,pD b a c (Ao (pC N F (pz 324) []) n)=(F2 N (Dx F) b a c n):=Gu fun n e=>(B6 (N7 N (Dx F) b a c) e:_)
def uI:=Cc N 174 (TE N) OK (fun
|[.pagg g h,.pagg f i,.int .i64 b],[]=>some fun _ k=>N8 N g h f i b (Dx k)
| _,_=>none) fun _ _=>by split;intro R F;exact(B6 (Vh N (Dx F) · _ _ _ _ _) (rD fun a c=>(lW ..).trans (aV ..)):_).trans (HZ ..).symm;trivial
def Ud(b:LA)(c:Bool)(a:Int)(r0:LA->O R):O R:=(A7 N 0 fun f=>Dd 3 (b.drop 24) fun e g=>cond (Ab a g) (cond (ble 3 ((e.drop (a.toNat*3)).length)) (Aj .i64 (b.drop 17) fun h=>A7 N h fun i=>Wn N ((e.drop (a.toNat*3)).take 3) c i false fun j=>Aad N f false j false fun d=>cond ((beq 0 0)&&((beq d.length 3)&&(beq 3 3))) (cond (ble 3 d.length) (r0 (d.take 3)) none) none) none) none)
def F3:=(shut (@Ud R)).1
def Xg:@F3 R=@Ud R:=(shut _).2
def R5:=Cc N 149 [Cp N,G_ N,Ap4 N] G3 (fun
|[.iptr b c,.int .i64 a],[]=>some fun _ k=>F3 N b c a (Dx k)
| _,_=>none) fun _ _=>by split;intro R F;dsimp only;rw[Xg];kernel_rfl;trivial
def L0(r0:Int->O R)(g:LA)(f:Nat)(b:Bool)(a:LA)(d:Bool)(c:LA)(k1:Int->Int->Int->LA->O R)(m l h:Int)(i:LA):O R:=(cond (decide (h<l)) (cond (Ab h f) (Aj .i64 (g.drop (h.toNat*1)) fun s=>Dd 3 (a.drop 1) fun q t=>cond (Ab h t) (cond (ble 3 ((q.drop (h.toNat*3)).length)) (cond (ble 3 c.length) (A7 N s fun u=>Oj N (c.take 3) d u false fun v=>Pv N ((q.drop (h.toNat*3)).take 3) b v false fun j=>cond ((beq 0 0)&&((beq j.length 3)&&(beq 3 3))) (cond ((h==0)==false) (cond (ble 3 j.length) (cond (ble 3 i.length) (Ih N (j.take 3) false (i.take 3) false fun w=>cond (cond false true (decide (w>0))) (cond (ble 3 j.length) (cond ((beq ((j.take 3).length) 3)&&((ble 3 i.length)&&(!false))) (k1 h l (wrap .i64 (h+1)) (setCells i 0 (j.take 3))) none) none) (k1 m l (wrap .i64 (h+1)) i)) none) none) (cond (ble 3 j.length) (cond ((beq ((j.take 3).length) 3)&&((ble 3 i.length)&&(!false))) (k1 h l (wrap .i64 (h+1)) (setCells i 0 (j.take 3))) none) none)) none) none) none) none) none) (Dd 1 a fun x y=>cond (Ab m y) (Aj .i64 (x.drop (m.toNat*1)) fun z=>r0 z) none))
def Gs(r0:Int->O R)(g:LA)(f:Nat)(b:Bool)(a:LA)(d:Bool)(c:LA):Nat->Int->Int->Int->LA->O R
|0=>fun _ _ _ _=>none
|n+1=>L0 N r0 g f b a d c (Gs r0 g f b a d c n)
def R6(r0:Int->O R)(g:LA)(f:Nat)(b:Bool)(a:LA)(d:Bool)(c:LA)(k0:Int->O R)(k1:Int->Int->Int->LA->O R)(o:Int):O R:=(cond (decide (0<o)) (cond (Ab 0 f) (Aj .i64 g fun aa=>Dd 3 (a.drop 1) fun r ab=>cond (Ab 0 ab) (cond (ble 3 r.length) (cond (ble 3 c.length) (A7 N aa fun ac=>Oj N (c.take 3) d ac false fun ad=>Pv N (r.take 3) b ad false fun p=>cond ((beq 0 0)&&((beq p.length 3)&&(beq 3 3))) (cond (ble 3 p.length) (cond ((beq 0 0)&&((beq ((p.take 3).length) 3)&&(beq 3 3))) (k1 0 o 1 (p.take 3)) none) none) none) none) none) none) none) (Dd 1 a fun ae af=>cond (Ab 0 af) (Aj .i64 ae fun ag=>r0 ag) none))
def Gt(r0:Int->O R)(g:LA)(f:Nat)(b:Bool)(a:LA)(d:Bool)(c:LA):Nat->Int->O R
|0=>fun _=>none
|n+1=>R6 N r0 g f b a d c (Gt r0 g f b a d c n) (Gs N r0 g f b a d c n)
def R7(N:Nat)(r0:Int->O R)(q0:LA->Nat->Int->O R)(a:LA)(b:Bool)(c:LA)(d:Bool):O R:=(Dd 1 a fun g f=>q0 g f (f:Int))
def Ir:=(shut fun N a b c d r0=>R7 (R:=R) N r0 (fun g f=>Gt N r0 g f b a d c N) a b c d).1
def ED(a b c d r0):(@Ir R N a b c d r0)=(R7 N r0 (fun g f=>Gt N r0 g f b a d c N) a b c d):=by rw[Ir,(shut _).2]
def H_:Hints:={H:=hK 3 (hS (hK 1 (hS (hP [2,3,5,6,11,12,13] hL) hL)) hL)}
def OL:Oe:=[Cp N,Vm N,Z8 N,Ri N]
def H'(F:KF R):=Iv Tryz.f75 H_ (OL N) [] N F
def kL(g:LA)(f:Nat)(b:Bool)(a:LA)(d:Bool)(c:LA)(K:St->O R):=fun m l h i=>K ⟨[(2,op 0),(3,op 1),(5,iv m),(6,op 2),(11,.imm g f 1 false b),(12,iv l),(13,iv h)],hq [bP b 0 a,bP d 0 c,bQ 0 i]⟩
def kM(g:LA)(f:Nat)(b:Bool)(a:LA)(d:Bool)(c:LA)(K:St->O R):=fun o=>K ⟨[(2,op 0),(3,op 1),(5,iv 0),(6,op 2),(11,.imm g f 1 false b),(12,iv o),(13,iv 0)],hq [bP b 0 a,bP d 0 c,bN 0 [.bool false,.nsl,.nsl]]⟩
def VV(F:KF R)(g f b a d c):∀ n,kL g f b a d c (Ao (H' N F (pz 5444) []) n)=(Gs N (Ee F) g f b a d c n):=Gu fun n e=>(B6 (L0 N (Ee F) g f b a d c) e:_)
def VW(F:KF R)(g f b a d c):∀ n,kM g f b a d c (Ao (H' N F (pz 5444) []) n)=(Gt N (Ee F) g f b a d c n):=Gu fun n e=>(QH (R6 N (Ee F) g f b a d c) e (VV ..):_)
def OM:=Cc N 75 (OL N) H_ (fun
|[.pagg a b,.pagg c d],[]=>some fun _ k=>Ir N a b c d (Ee k)
| _,_=>none) fun _ _=>by split;intro R F;exact(B6 (R7 N (Ee F) · _ _ _ _) (rD fun g f=>(lW ..).trans (VW ..)):_).trans (ED ..).symm;trivial
def Wt(e:LA)(f:Bool)(g:Int)(a:LA)(c:Bool)(r0:LA->Bool->O R):O R:=(F3 N e f g fun b=>cond ((beq 0 0)&&((beq b.length 3)&&(beq 3 3))) (cond (ble 2 a.length) (cond (ble 3 b.length) (cond (ble 2 a.length) (A7 N 0 fun i=>Ir N (a.take 2) c i false fun d=>cond (ble 2 a.length) (cond (ble 3 b.length) (Ir N (a.take 2) c (b.take 3) false fun h=>cond ((beq ((a.take 2).length) 2)&&(ble 2 7)) (cond ((beq ((b.take 3).length) 3)&&(ble 5 ((setCells [.nsl,.nsl,.bool false,.nsl,.nsl,Bbr,Bbr] 0 (a.take 2)).length))) (cond ((beq 1 1)&&(ble 6 ((setCells (setCells [.nsl,.nsl,.bool false,.nsl,.nsl,Bbr,Bbr] 0 (a.take 2)) 2 (b.take 3)).length))) (cond ((beq 1 1)&&(ble 7 (((setCells (setCells [.nsl,.nsl,.bool false,.nsl,.nsl,Bbr,Bbr] 0 (a.take 2)) 2 (b.take 3)).set 5 (.int .i64 d)).length))) (cond ((beq 0 0)&&((beq ((((setCells (setCells [.nsl,.nsl,.bool false,.nsl,.nsl,Bbr,Bbr] 0 (a.take 2)) 2 (b.take 3)).set 5 (.int .i64 d)).set 6 (.int .i64 h)).length) 7)&&(beq 7 7))) (cond (ble 7 ((((setCells (setCells [.nsl,.nsl,.bool false,.nsl,.nsl,Bbr,Bbr] 0 (a.take 2)) 2 (b.take 3)).set 5 (.int .i64 d)).set 6 (.int .i64 h)).length)) (r0 ((((setCells (setCells [.nsl,.nsl,.bool false,.nsl,.nsl,Bbr,Bbr] 0 (a.take 2)) 2 (b.take 3)).set 5 (.int .i64 d)).set 6 (.int .i64 h)).take 7) (c||false)) none) none) none) none) none) none) none) none) none) none) none) none)
def Fi:=(shut (@Wt R)).1
def AZ:@Fi R=@Wt R:=(shut _).2
def IA:=Cc N 146 [R5 N,Cp N,OM N] G3 (fun
|[.iptr e f,.int .i64 g,.pagg a c],[]=>some fun _ k=>Fi N e f g a c (rF k)
| _,_=>none) fun _ _=>by split;intro R F;dsimp only;rw[AZ];kernel_rfl;trivial
def Wu(N:Nat)(a:LA)(b:Bool)(r0:Int->O R):O R:=(Dd 1 a fun c d=>cond (Ab 0 d) (Aj .i64 c fun e=>r0 e) none)
def Jh:=(shut (@Wu R)).1
def A_:@Jh R=@Wu R:=(shut _).2
def Ue:=Cc N 197 [] D5 (fun
|[.pagg a b],[]=>some fun _ k=>Jh N a b (Ee k)
| _,_=>none) fun _ _=>by split;intro R F;dsimp only;rw[A_];kernel_rfl;trivial
def BA(N:Nat)(a:LA)(b:Bool)(r0:Int->O R):O R:=(Dd 1 a fun d e=>Dd 1 a fun g c=>cond (Ab (wrap .i64 ((c:Int) - 1)) e) (Aj .i64 (d.drop (((wrap .i64 ((c:Int) - 1)).toNat)*1)) fun f=>r0 f) none)
def Lm:=(shut (@BA R)).1
def EE:@Lm R=@BA R:=(shut _).2
def Wv:=Cc N 196 [] D5 (fun
|[.pagg a b],[]=>some fun _ k=>Lm N a b (Ee k)
| _,_=>none) fun _ _=>by split;intro R F;dsimp only;rw[EE];kernel_rfl;trivial
def Fn(N:Nat)(k0:Int->O R)(r0:Nat->LA->O R)(a:Nat)(b:LA)(k1:Int->Nat->Nat->Int->LA->O R)(c:Int)(i h:Nat)(f:Int)(g:LA):O R:=(cond (decide (f<(h:Int))) (cond (Ab f h) (Aj .i64 (g.drop (i+(f.toNat*1))) fun j=>cond (Ab (wrap .i64 (f - 1)) h) (Aj .i64 (g.drop (i+(((wrap .i64 (f - 1)).toNat)*1))) fun l=>cond (j != l) (cond (Ab f h) (Aj .i64 (g.drop (i+(f.toNat*1))) fun m=>cond (Ab c a) (cond ((beq 1 1)&&((ble ((0+(c.toNat*1))+1) g.length)&&(!false))) (k1 (wrap .i64 (c+1)) i h (wrap .i64 (f+1)) (g.set (0+(c.toNat*1)) (.int .i64 m))) none) none) none) (k1 c i h (wrap .i64 (f+1)) g)) none) none) (cond ((decide (0<=c))&&((decide (c<=(a:Int)))&&((decide ((a:Int)<=(a:Int)))&&(decide ((a:Int)<=(a:Int)))))) (cond ((decide ((0:Int)<=(0:Int)))&&((decide (0<=c))&&((decide (c<=(a:Int)))&&(decide ((a:Int)<=(a:Int)))))) (r0 c.toNat (D2 g (0+(c.toNat*1)) (replicate (a - c.toNat) Bbr))) none) none))
def B5(k0:Int->O R)(r0:Nat->LA->O R)(a:Nat)(b:LA):Nat->Int->Nat->Nat->Int->LA->O R
|0=>fun _ _ _ _ _=>none
|n+1=>Fn N k0 r0 a b (B5 k0 r0 a b n)
def Fo(N:Nat)(r0:Nat->LA->O R)(a:Nat)(b:LA)(k0:Int->O R)(q1:Int->Nat->Nat->Int->LA->O R)(d:Int):O R:=(cond (decide (d<(a:Int))) (cond (Ab d a) (Aj .i64 (b.drop (0+(d.toNat*1))) fun o=>cond (Ab (wrap .i64 (d - 1)) a) (Aj .i64 (b.drop (0+(((wrap .i64 (d - 1)).toNat)*1))) fun p=>cond (o==p) (cond ((decide (0<=d))&&((decide (d<=(a:Int)))&&((decide ((a:Int)<=(a:Int)))&&(decide ((a:Int)<=(a:Int)))))) (q1 d (0+(d.toNat*1)) (a - d.toNat) 1 b) none) (k0 (wrap .i64 (d+1)))) none) none) (r0 a b))
def Bo(r0:Nat->LA->O R)(a:Nat)(b:LA):Nat->Int->O R
|0=>fun _=>none
|n+1=>Fo N r0 a b (Bo r0 a b n) (B5 N (Bo r0 a b n) r0 a b N)
def H2(N:Nat)(r0:Nat->LA->O R)(q0:Int->O R)(a:Nat)(b:LA):O R:=(cond (decide ((a:Int)<2)) (r0 a b) (q0 1))
def C0:=(shut fun N a b r0=>H2 (R:=R) N r0 (Bo N r0 a b N) a b).1
def Qr(a b r0):(@C0 R N a b r0)=(H2 N r0 (Bo N r0 a b N) a b):=by rw[C0,(shut _).2]
def R8:Hints:={H:=hK 2 (hS (hK 1 (hS (hP [0,3] (hK 1 (hS (hS (hK 1 (hS (hK 1 (hS (hK 1 (hS (hP [0,3,4,5] hL) hL)) hL)) hL)) hL) hL))) hL)) hL),nils:=[(2,1)],modes:=[(2,1)]}
def R9(F:KF R):=Iv Tryz.f126 R8 [] [100000] N F
def Df(F:KF R):Nat->LA->O R:=fun q r=>F (.own 100000 0 q) [(100000,bQ 1 r)]
def LY(a:Nat)(b:LA)(K:St->O R):=fun c i h f g=>K ⟨[(0,.own 100000 0 a),(3,iv c),(4,.own 100000 i h),(5,iv f)],[(100000,bQ 1 g)]⟩
def Kf(a:Nat)(b:LA)(K:St->O R):=fun d=>K ⟨[(0,.own 100000 0 a),(3,iv d)],[(100000,bQ 1 b)]⟩
def BY Q0 (F:KF R) (a b):∀ n,LY a b (Ao (R9 N F (pz 1413547076) [Q0]) n)=(B5 N (Kf a b Q0) (Df F) a b n):=Gu fun n e=>(B6 (Fn N (Kf a b Q0) (Df F) a b) e:_)
def BZ(F:KF R)(a b):∀ n,Kf a b (Ao (R9 N F (pz 1348) []) n)=(Bo N (Df F) a b n):=Gu fun n e=>(QH (Fo N (Df F) a b) e ((lW ..).trans ((BY ..).trans (xP (B5 _ · _ _ _ _) e))):_)
def S8:=Cc N 126 [] R8 (fun
|[.own 100000 0 a],[(100000,⟨false,false,true,false,1,b,false,none⟩)]=>some fun _ k=>C0 N a b (Df k)
| _,_=>none) fun _ _=>by split;intro R F;exact(B6 (H2 N (Df F) · _ _) ((lW ..).trans (BZ ..)):_).trans (Qr ..).symm;trivial
def Sa(c:LA)(o:Bool)(b:LA)(d:Bool)(a:Int)(r0:Int->Int->O R):O R:=(Aj .i64 (c.drop 16) fun e=>Aj .i64 (c.drop 3) fun f=>Aj .i64 (c.drop 6) fun g=>Aj .i64 (b.drop 5) fun h=>Aj .i64 (b.drop 6) fun i=>cond (ble 2 b.length) (Jh N (b.take 2) d fun j=>Aj .i64 (c.drop 6) fun l=>cond (ble 2 b.length) (Lm N (b.take 2) d fun m=>Aj .i64 (c.drop 7) fun n=>cond (ble 3 ((b.drop 2).length)) (Rf N ((b.drop 2).take 3) d fun p=>cond (decide (p>0)) (Aj .i64 (c.drop 6) fun q=>r0 (Cn (Cn (Fc (Fc (Cn (Fc (wrap .i64 ((Cn (wrap .i64 (a+e)) f) - g)) h) i) j) (wrap .i64 (a - l))) m) (wrap .i64 (a+n))) (wrap .i64 ((Cn (Cn (wrap .i64 (a+e)) f) (wrap .i64 ((Cn (Cn (Fc (Fc (Cn (Fc (wrap .i64 ((Cn (wrap .i64 (a+e)) f) - g)) h) i) j) (wrap .i64 (a - l))) m) (wrap .i64 (a+n)))+q))) - a))) (r0 (Cn (Cn (Fc (Fc (Cn (Fc (wrap .i64 ((Cn (wrap .i64 (a+e)) f) - g)) h) i) j) (wrap .i64 (a - l))) m) (wrap .i64 (a+n))) 0)) none) none) none)
def Ea:=(shut (@Sa R)).1
def Vv:@Ea R=@Sa R:=(shut _).2
def BB:=Cc N 145 [Ue N,Wv N,GX N] D5 (fun
|[.iptr c o,.pagg b d,.int .i64 a],[]=>some fun _ k=>Ea N c o b d a (zX k)
| _,_=>none) fun _ _=>by split;intro R F;dsimp only;rw[Vv];kernel_rfl;trivial
def FW(N:Nat)(a:Int)(r0:Bool->O R):O R:=(r0 (a != a))
def Yr:=(shut (@FW R)).1
def IB:@Yr R=@FW R:=(shut _).2
def uJ:=Cc N 188 [] D5 (fun
|[.int .i64 a],[]=>some fun _ k=>Yr N a (Bu k)
| _,_=>none) fun _ _=>by split;intro R F;dsimp only;rw[IB];kernel_rfl;trivial
end
end Gx
namespace Gx
open Go Go.Proofs
section
variable{R:Type}
variable{N:Nat}{K:Bool->O R}{a:List UInt8}{b d e:Int}{sg:List SegD}{c:Bool}{g i j l m t u w n o x p q:Int}{aw:List Int}{ab:Bool}{z aa r:Int}
def A09(a:Lu)(b d e:Int)(sg:List SegD)(c:Bool)(g i j l m t u w n o x p q:Int)(aw:List Int)(ab:Bool)(z aa r:Int):UnitD:=⟨a,b,d,e,.of sg false c,g,i,j,l,m,t,u,w,n,o,x,p,q,.of aw false ab,z,aa,r⟩
def Aiy:[AV.str a,.int .i64 b,.int .i64 d,.int .i64 e,.imm (sg.flatMap SegD.av) sg.length 2 false c,.int .i64 g,.int .i64 i,.int .i64 j,.int .i64 l,.int .i64 m,.int .i64 t,.int .i64 u,.int .i64 w,.int .i64 n,.int .i64 o,.int .i64 x,.int .i64 p,.int .i64 q,.imm (Am aw) aw.length 1 false ab,.int .i64 z,.int .i64 aa,.int .i64 r] =
  (A09 a b d e sg c g i j l m t u w n o x p q aw ab z aa r).av:=by rw[<-Ny];rfl
end
end Gx
namespace Gx
open Go Go.Proofs
section
variable{R:Type}
def Aq3(x:RatD):Bool:=decide (x.ns.l.length<=4)&&decide (x.ds.l.length<=4)
def Afh(l:List RatD):Bool:=decide (l.length<=30)&&l.all Aq3
def P6{l:List RatD}{j:Nat}(h:j<l.length):drop ((Int.toNat (j:Int))*3) (l.flatMap RatD.av)=l[j].av++(l.drop (j+1)).flatMap RatD.av:=by rw[A2u,Y4 (e:=RatD.av) (sz:=3) (fun _=>rfl) _ _ h]
def Ayg{x:RatD}{r:LA}{f:LA->Nat->O R}:Dd 1 (drop 1 (x.av++r)) f=f (Ad x.ns.l) x.ns.l.length:=by rw[show drop 1 (x.av++r)=x.ns.av::x.ds.av::r from rfl,tU]
def Ayh{x:RatD}{r:LA}{f:LA->Nat->O R}:Dd 1 (drop 2 (x.av++r)) f=f (Ad x.ds.l) x.ds.l.length:=by rw[show drop 2 (x.av++r)=x.ds.av::r from rfl,tU]
def Afi{N:Nat}{l:List RatD}{d e:Bool}{K:Bool->O R}(I:l.length<=1000):∀(m j k:Nat),j+m=l.length->m<k ->
  T3 N K (l.flatMap RatD.av) l.length d e k (j:Int)=K ((l.drop j).all Aq3)
|0,j,k+1,L,_=>by
  rw[T3];unfold J_
  rw[Rc (by omega),cf,Jx (by omega),List.all_nil]
| m+1,j,k+1,L,T=>by
  rw[T3];unfold J_
  have h:j<l.length:=by omega
  rw[Ox h,ct,Aa h,ct,P6 h,Ayg,ct,Ayh,wS (by omega),Afi I m (j+1) k (by omega) (by omega),Fg h,A8m]
  generalize (drop (j+1) l).all Aq3=t
  unfold Aq3
  by_cases D:l[j].ns.l.length<=4
  ·rw[show(decide ((l[j].ns.l.length:Int)>4)==false)=true by simp;omega,ct,decide_eq_true D]
   by_cases G:l[j].ds.l.length<=4
   ·rw[show decide ((l[j].ds.l.length:Int)>4)=false by simp;omega,Axj,cf,decide_eq_true G];cases t<;>rfl
   ·rw[show decide ((l[j].ds.l.length:Int)>4)=true by simp;omega,decide_eq_false G];cases t<;>rfl
  ·rw[show(decide ((l[j].ns.l.length:Int)>4)==false)=false by simp;omega,cf,decide_eq_false D];rfl
def fV{N:Nat}{l:List RatD}{n:Nat}{d e:Bool}{K:Bool->O R}(k:n=l.length)(hN:1000<=N):RF N (l.flatMap RatD.av) n d e K=K (Afh l):=by
 subst k
 rw[sC];unfold pT Afh
 by_cases h:l.length<=30
 ·rw[show decide ((l.length:Int)>30)=false by simp;omega,cf,decide_eq_true h,A5s]
  have:=Afi (N:=N) (l:=l) (d:=d) (e:=e) (K:=K) (by omega) l.length 0 N (by omega) (by omega)
  rw[A3m]at this;exact this
 ·rw[show decide ((l.length:Int)>30)=true by simp;omega,ct,decide_eq_false h];rfl
end
end Gx
namespace Go.Proofs
open Go.Shelf
open Go.RowKit Go.Lib Go.Sort
def Tryz.lays189_ren : Go.Shelf.Ren := ⟨fun|189 => 125|125 => 179|257 => 178|128 => 223|129 => 224|294 => 215|295 => 216|296 => 217|297 => 218|298 => 219|299 => 220|216 => 187|300 => 221|301 => 222|328 => 236|329 => 237|330 => 238|331 => 239|332 => 240|215 => 175|343 => 249|n => n, fun|28 => 22|3 => 3|46 => 241|0 => 0|51 => 129|53 => 202|4 => 4|183 => 263|182 => 262|131 => 195|5 => 5|9 => 9|218 => 282|222 => 286|228 => 292|229 => 174|n => n, fun|n => n⟩
def Tryz.lays189 : Go.Proofs.Lays.n189 Tryz.prog Tryz.lays189_ren := {
  mixed := by kernel_rfl
  f125 := Tryz.func179.trans (congrArg some (by kernel_rfl))
  f128 := Tryz.func223.trans (congrArg some (by kernel_rfl))
  f129 := Tryz.func224.trans (congrArg some (by kernel_rfl))
  f189 := Tryz.func125.trans (congrArg some (by kernel_rfl))
  f215 := Tryz.func175.trans (congrArg some (by kernel_rfl))
  f216 := Tryz.func187.trans (congrArg some (by kernel_rfl))
  f257 := Tryz.func178.trans (congrArg some (by kernel_rfl))
  f294 := Tryz.func215.trans (congrArg some (by kernel_rfl))
  f295 := Tryz.func216.trans (congrArg some (by kernel_rfl))
  f296 := Tryz.func217.trans (congrArg some (by kernel_rfl))
  f297 := Tryz.func218.trans (congrArg some (by kernel_rfl))
  f298 := Tryz.func219.trans (congrArg some (by kernel_rfl))
  f299 := Tryz.func220.trans (congrArg some (by kernel_rfl))
  f300 := Tryz.func221.trans (congrArg some (by kernel_rfl))
  f301 := Tryz.func222.trans (congrArg some (by kernel_rfl))
  f328 := Tryz.func236.trans (congrArg some (by kernel_rfl))
  f329 := Tryz.func237.trans (congrArg some (by kernel_rfl))
  f330 := Tryz.func238.trans (congrArg some (by kernel_rfl))
  f331 := Tryz.func239.trans (congrArg some (by kernel_rfl))
  f332 := Tryz.func240.trans (congrArg some (by kernel_rfl))
  f343 := Tryz.func249.trans (congrArg some (by kernel_rfl))
  t0 := Tryz.underlying0
  a0 := Tryz.isAgg0
  z0 := Tryz.sizeOf0
  v0 := Tryz.zeroValue0
  t3 := Tryz.underlying3
  a3 := Tryz.isAgg3
  z3 := Tryz.sizeOf3
  v3 := Tryz.zeroValue3
  t4 := Tryz.underlying4
  a4 := Tryz.isAgg4
  z4 := Tryz.sizeOf4
  v4 := Tryz.zeroValue4
  t5 := Tryz.underlying5
  a5 := Tryz.isAgg5
  z5 := Tryz.sizeOf5
  v5 := Tryz.zeroValue5
  t9 := Tryz.underlying9
  a9 := Tryz.isAgg9
  z9 := Tryz.sizeOf9
  v9 := Tryz.zeroValue9
  t28 := Tryz.underlying22
  a28 := Tryz.isAgg22
  z28 := Tryz.sizeOf22
  v28 := Tryz.zeroValue22
  t46 := Tryz.underlying241
  a46 := Tryz.isAgg241
  z46 := Tryz.sizeOf241
  v46 := Tryz.zeroValue241
  t51 := Tryz.underlying129
  a51 := Tryz.isAgg129
  z51 := Tryz.sizeOf129
  v51 := Tryz.zeroValue129
  t53 := Tryz.underlying202
  a53 := Tryz.isAgg202
  z53 := Tryz.sizeOf202
  v53 := Tryz.zeroValue202
  t131 := Tryz.underlying195
  a131 := Tryz.isAgg195
  z131 := Tryz.sizeOf195
  v131 := Tryz.zeroValue195
  t182 := Tryz.underlying262
  a182 := Tryz.isAgg262
  z182 := Tryz.sizeOf262
  v182 := Tryz.zeroValue262
  t183 := Tryz.underlying263
  a183 := Tryz.isAgg263
  z183 := Tryz.sizeOf263
  v183 := Tryz.zeroValue263
  t218 := Tryz.underlying282
  a218 := Tryz.isAgg282
  z218 := Tryz.sizeOf282
  v218 := Tryz.zeroValue282
  t222 := Tryz.underlying286
  a222 := Tryz.isAgg286
  z222 := Tryz.sizeOf286
  v222 := Tryz.zeroValue286
  t228 := Tryz.underlying292
  a228 := Tryz.isAgg292
  z228 := Tryz.sizeOf292
  v228 := Tryz.zeroValue292
  t229 := Tryz.underlying174
  a229 := Tryz.isAgg174
  z229 := Tryz.sizeOf174
  v229 := Tryz.zeroValue174 }
open Go.Sort Go.RowKit in
def Tryz.slices_Sort_int(blk off cap : Nat)(zs : List Int)(w : World)(hH : Holds (Value.int .i64) w blk off zs.toArray)(hblk : blk < w.heap.size)(hsz : zs.length < 4611686018427387904):
    Calls Tryz.prog 125 #[.slice (some ⟨blk, off, none⟩) zs.length cap] w fun e w' =>
      e = .returned (.tuple #[]) /\ ∃ n os, w' = grow (putRow (Value.int .i64) (Sort.ahead w n) blk off (zs.mergeSort fun x y => decide (x <= y)).toArray) os := Any.slices_Sort_int Tryz.lays189 blk off cap zs w hH hblk hsz
end Go.Proofs
namespace Gx
open Go
section
variable{J:Bool->Nat->Prop}{β:Cr}{h:Ap}{w w':World}
def Step.junk(S:SimH J β h w)(ho:w'.os=w.os)(ht:w'.tape=w.tape)(hu:w'.output=w.output)(hs:w.heap.size<=w'.heap.size)(I:∀ k,k<w.heap.size->w'.heap[k]?=w.heap[k]?):Step J β h w J β h w':=by
 have hz:∀ k,Ba w k<=Ba w' k:=fun k=>by
  by_cases Y:k<w.heap.size
  ·simp[Ba,I k Y]
  ·simp[Ba,A4z (A5k Y)]
 have E:Ext J β h w J β h w':=⟨fun _ _ D=>D,fun o k D=>I k (S.jlt o k D),fun b x G=>⟨x,⟨G,rfl⟩,by cases L:x.dead<;>simp⟩,fun b k o _=>hz k⟩
 refine⟨E,⟨fun o k D=>A3e (S.jlt o k D) hs,S.jft,S.gl.ext E,fun b x G L T=>?_,fun b x G L T=>(S.mblk b x G L T).keep rfl (fun k o hβ=>I k (E' S G L hβ)) (fun _ _ _ _ D=>D),S.sep⟩,ho,ht,hu,hs,fun k Y _=>I k Y,fun k T _=>T,fun _ _ D=>.inl D⟩
 rcases S.blk b x G L T with h1|⟨k,o,cs,ty,fr,h1,h2,h3,h4,h5,h6⟩
 ·exact .inl h1
 ·exact .inr ⟨k,o,cs,ty,fr,h1,by rw[I k (UC h2)];exact h2,h3,h4,h5.ext E,h6⟩
end
end Gx
namespace Gx
open Go Go.Proofs Go.RowKit
noncomputable section
variable{R:Type}(N:Nat)
def Aot:AV->Int
|.int _ n=>n
|_=>0
def Abg:AV->Bool
|.int .i64 n=>decide (-9223372036854775808<=n)&&decide (n<=9223372036854775807)
|_=>false
def Xh(l:List Int):LA:=l.map fun n=>.int .i64 n
def TF(l:List Int):List Int:=l.mergeSort fun x y=>decide (x<=y)
def Fp(_N:Nat)(n:Nat)(c:LA)(r0:LA->O R):O R:=cond (ble 1 n&&(ble n 16777216&&(c.take n).all Abg)) (r0 (Xh (TF ((c.take n).map Aot))++c.drop n)) none
def E8:=(shut (@Fp R)).1
def Fj:@E8 R=@Fp R:=(shut _).2
def Eb(a:LA)(h:Ap)(k:KF R):O R :=
 match a,h with
|[.own 100000 0 n],[(100000,⟨false,false,true,false,1,c,false,none⟩)]=>E8 N n c fun c'=>k (.tup []) [(100000,bQ 1 c')]
|_,_=>none
def Xi:Tw:=⟨fun {R} a h k=>@Eb R N a h k,fun {R} a h k=>by
 unfold Eb
 split
 ·rename_i n c
  rw[Fj,Fj];unfold Fp;cases (ble 1 n&&(ble n 16777216&&(c.take n).all Abg))<;>rfl
 ·rfl,[],fun _ _ _ _ _ _ hb=>Bool.noConfusion hb⟩
end
def Aq4{x:AV}(h:Abg x=true):∃ n,x=.int .i64 n/\-9223372036854775808<=n/\n<=9223372036854775807:=by
 unfold Abg at h
 split at h
 ·simp at h;exact⟨_,rfl,h⟩
 ·cases h
def Afj:∀{c:LA},c.all Abg=true->c=Xh (c.map Aot)
|[],_=>rfl
|x::r,h=>by
  simp only[A8m,A2y]at h
  obtain⟨n,rfl,D⟩:=Aq4 h.1
  have k:=Afj h.2
  simp only[A3o,Xh,Aot];rw[show List.map (fun n=>AV.int IntKind.i64 n) (List.map Aot r)=r from k.symm]
def FDone.of{J J':Bool->Nat->Prop}{β β':Cr}{h H:Ap}{w w':World}(A:Step J β h w J' β' H w')(L:∀ k,Ba w k<=Ba w' k)(T:∀ b x,Ai H b=some x->x.dead=false):FDone ⟨J,β,h,w⟩ J' β' H w' :=
 ⟨A.sim,A.os,A.tape,A.output,A.size,A.frame,A.wr,A.ext.jsub,A.jup,L,fun b x0 x Y I hd=>by
  obtain⟨x',⟨G,h2⟩,D⟩:=A.ext.blk b x0 Y
  change Ai H b=some x at I
  rw[I]at G;simp at G;subst G
  rcases D with D|⟨D,h4,h5,h6⟩
  ·rw[hd]at D;cases D
  ·exact⟨⟨h4,h2⟩,h5,fun _=>h6 (by first | rfl | assumption),D⟩,T⟩
def Xj(N:Nat):qu Tryz.prog 125 (Xi N):=by
 intro args h res h' hh0
 have hh:Eb N args h (fun v h'=>some (v,h'))=some (res,h'):=hh0
 unfold Eb at hh
 split at hh
 ·rename_i n c
  rw[Fj,Fp]at hh
  obtain⟨h1,h2⟩:=uc hh
  simp only[A2y]at h1
  obtain⟨a4,a5,a6⟩:=h1
  have a4:=A7j a4
  have a5:=A7j a5
  have a7:=Afj a6
  simp only[A3k,A6x]at h2
  obtain⟨rfl,rfl⟩:=h2
  intro J β w vs S hr
  obtain⟨u,rfl,e1⟩:=Apl hr
  have hb:Ai [(100000,(⟨false,false,true,false,1,c,false,none⟩:Blk))] 100000=some ⟨false,false,true,false,1,c,false,none⟩:=rfl
  rw[Rep]at e1
  obtain⟨x,A,cap,⟨D,_⟩,rfl,hcap,e1⟩:=e1
  rw[hb]at D;simp at D;subst D
  rcases e1 with e1|⟨k,o,rfl,e1⟩
  ·omega
  rcases e1 with e1|⟨hβ,g1,g2⟩
  ·cases e1
  rcases S.blk 100000 _ hb rfl rfl with⟨hz,_⟩|⟨k',o',cs,ty,fr,T,k1,k2,k3,k4,k5,_⟩
  ·rw[hβ]at hz;cases hz
  rw[hβ]at T;simp at T;obtain⟨rfl,rfl⟩:=T
  have k3:o+c.length<=cs.size:=k3
  have g2:0+n*1<=c.length:=g2
  have k4':RepCs (J false) w c (fun j=>cs[o+j]?) 0:=k4.1 rfl
  generalize hzs:(c.take n).map Aot=zs at *
  have hzl:zs.length=n:=by rw[<-hzs];simp;omega
  have hcz:∀(q:Nat) m,zs[q]?=some m->cs[o+q]?=some (.int .i64 m):=by
   intro q m hq
   have hql:=(A29.1 hq).1
   have h9:(c.take n)[q]?=some (.int .i64 m):=by rw[a7];unfold Xh;rw[A5o,hq];rfl
   rw[A6w (by omega)]at h9
   obtain⟨v,hv,L⟩:=k4'.at h9
   rw[RepC]at L;subst L
   simpa using hv
  have hH:Go.Sort.Holds (Value.int .i64) w k (o+0) zs.toArray:=by
   intro q hq
   have hq':q<zs.length:=by simpa using hq
   refine⟨?_,?_⟩
   ·rw[show w.cell? ⟨k,o+0+q,none⟩=cs[o+0+q]? by simp[World.cell?,k1],A30,hcz q zs[q] (by simp[hq'])]
    simp[hq']
   ·simp only[World.frozen?,k1]
    have:=k2.1.at (o+0+q) (by omega)
    cases fr;simp at this ⊢;omega
  have I:=Tryz.slices_Sort_int k (o+0) cap zs w hH (UC k1) (by omega)
  rw[hzl,show(zs.mergeSort fun x y=>decide (x<=y))=TF zs from rfl]at I
  refine I.mono ?_
  rintro e w' ⟨rfl,q,os,rfl⟩
  have hnl:(TF zs).length=n:=by unfold TF;rw[A86];exact hzl
  generalize TF zs=nw at *
  have O:OnlyBlk w (Go.Sort.putRow (Value.int .i64) (Go.Sort.ahead w q) k (o+0) nw.toArray) k cs (Go.Sort.putCells (Value.int .i64) (o+0) nw.toArray cs) ty fr:=by
   refine⟨k1,?_,by simp[Go.Sort.putCells],fun G Y=>?_,?_,rfl,rfl,rfl⟩
   ·simp[Go.Sort.putRow,Go.Sort.mapBlock,Go.Sort.ahead,A6i,k1,Go.Sort.onCells]
   ·simp[Go.Sort.putRow,Go.Sort.mapBlock,Go.Sort.ahead,A6i,Ne.symm Y]
   ·simp[Go.Sort.putRow,Go.Sort.mapBlock,Go.Sort.ahead]
  have hlen:(Xh nw++c.drop n).length=c.length:=by unfold Xh;simp;omega
  have hrc:RepCs (J false) w (Xh nw++c.drop n) (fun G=>(Go.Sort.putCells (Value.int .i64) (o+0) nw.toArray cs)[o+G]?) 0:=by
   rw[Cm]
   intro G x D
   rw[A22]
   by_cases Y:G<n
   ·rw[A42 (by unfold Xh;simp;omega)]at D
    unfold Xh at D
    rw[A5o,A2r (by omega)]at D
    simp at D;subst D
    refine⟨.int .i64 nw[G],?_,by rw[RepC]⟩
    have:o+G<cs.size:=by omega
    simp[Go.Sort.putCells,this,hnl,Y]
   ·rw[A5e (by unfold Xh;simp;omega)]at D
    have hx':c[G]?=some x:=by
     rw[A3z,show(Xh nw).length=n by unfold Xh;simp;omega,show n+(G - n)=G by omega]at D;exact D
    obtain⟨v,hv,L⟩:=k4'.at hx'
    have hv:cs[o+G]?=some v:=by simpa using hv
    refine⟨v,?_,L⟩
    have hlt:=(A29.1 hx').1
    have:o+G<cs.size:=by omega
    have hn2:¬ (o<=o+G/\o+G<o+nw.length):=by omega
    simp only[Go.Sort.putCells,Array.getElem?_mapIdx,hv,A71,List.size_toArray,A30,if_neg hn2]
  have A:=Step.set S hb rfl rfl hβ O (x':=bQ 1 (Xh nw++c.drop n)) rfl rfl rfl hlen ⟨fun _=>hrc,fun hp=>by cases hp⟩ rfl
  have B:=Step.junk A.sim (w':=Go.Sort.grow (Go.Sort.putRow (Value.int .i64) (Go.Sort.ahead w q) k (o+0) nw.toArray) os) rfl rfl rfl (by simp[Go.Sort.grow]) (fun k2 hk2=>A6m hk2)
  have hz:∀ k2,Ba w k2<=Ba (Go.Sort.grow (Go.Sort.putRow (Value.int .i64) (Go.Sort.ahead w q) k (o+0) nw.toArray) os) k2:=fun k2=>by
   by_cases hl:k2<w.heap.size
   ·have e:(Go.Sort.grow (Go.Sort.putRow (Value.int .i64) (Go.Sort.ahead w q) k (o+0) nw.toArray) os).heap[k2]?=(Go.Sort.putRow (Value.int .i64) (Go.Sort.ahead w q) k (o+0) nw.toArray).heap[k2]?:=by
     simp only[Go.Sort.grow];exact A6m (by rw[O.size];exact hl)
    by_cases e2:k2=k
    ·subst e2;rw[G0 O.old,G0 (e.trans O.new),O.sz];exact A2s _
    ·simp only[Ba,e,O.other k2 e2];exact A2s _
   ·simp[Ba,A4z (A5k hl)]
  have C:=A.trans B (fun b k2 o2 _=>hz k2)
  refine⟨_,J,β,rfl,FDone.of C hz (fun b x D=>?_),by rw[Rep];exact⟨[],rfl,by rw[Reps]⟩⟩
  change Ai [(100000,bQ 1 (Xh nw++c.drop n))] b=some x at D
  rw[Ai]at D
  cases hq:beq 100000 b<;>rw[hq]at D<;>simp[Ai]at D
  subst D;rfl
 ·simp at hh
noncomputable def BC(N:Nat):=Ax0 (Xi N) (Xj N)
end Gx
namespace Gx.Uo
open Go Go.Proofs
section
variable{R:Type}{N:Nat}{X:O R}
def VOk(V:List RatD)(L:Hk):Prop:=V.length=L.length/\∀ i (h:i<V.length) (h':i<L.length),V[i].can L[i].2
def F4(L:Hk):List Int:=L.map (·.1)
structure PB(M:Nat)(L:Hk):Prop where
 x:∀ p∈L,-10000000<=p.1/\p.1<=10000000
 q:∀ p∈L,qm p.2<=M
 n:L.length<=30000000
def yP{n k:Nat}(h:k<=n)(D:n<=1000000000000):wrap .i64 ((n:Int) - (k:Int))=((n - k:Nat):Int):=by rw[Bc _ (by omega)];omega
def Awb{l:List Int}{j:Nat}(h:j<l.length){f:Int->O R}:Aj .i64 (drop (0+((Int.toNat (j:Int))*1)) (Am l)) f=f l[j]:=by rw[A22];exact Bh h
def A1a{V:List RatD}{j:Nat}(h:j<V.length):take 3 (drop (0+(Int.toNat (j:Int))*3) (V.flatMap RatD.av))=V[j].av:=by rw[A22,P6 h];rfl
def Ayi{V:List RatD}{j:Nat}(h:j<V.length):ble 3 (drop (0+(Int.toNat (j:Int))*3) (V.flatMap RatD.av)).length=true:=by rw[A22,P6 h];rfl
def Awc{p q:Rat}:(HR p q==0)=decide (p=q):=by
 rw[A4s,beq_iff_eq,decide_eq_true_eq]
 unfold HR
 constructor
 ·intro h;split at h
  ·cases h
  ·split at h
   ·cases h
   ·grind
 ·rintro rfl;simp[Rat.lt_irrefl]
def Aq5{V:List RatD}{n:Nat}(h:n<=V.length):(V.flatMap RatD.av).take (n*3)=(V.take n).flatMap RatD.av:=by
 induction V generalizing n with
|nil=>simp
| cons a r k =>
  cases n with
  |zero=>simp
  |succ n =>
   rw[A3r,List.take_succ_cons,A3r,A8q,show(n+1)*3 - a.av.length=n*3 by show(n+1)*3 - 3=_;omega,k (by simpa using h),A2t (by show 3<=_;omega)]
def nQ(V:List RatD):(V.flatMap RatD.av).length=V.length*3:=by
 induction V with
|nil=>rfl
|cons a r k=>rw[A3r,A3d,k,A3a];show 3+_=_;omega
def VOk.snoc{V:List RatD}{L:Hk}(h:VOk V L){d:RatD}{x:Int}{v:Rat}(k:d.can v):VOk (V++[d]) (L++[(x,v)]):=by
 refine⟨by simp[h.1],fun i D G=>?_⟩
 by_cases hi:i<V.length
 ·rw[A3q hi,A3q (by rw[<-h.1];exact hi)];exact h.2 i hi _
 ·have:i=V.length:=by simp at D;omega
  subst this
  rw[A43 (by omega),A43 (by rw[h.1];omega)]
  simpa using k
def VOk.take{V:List RatD}{L:Hk}(h:VOk V L)(n:Nat):VOk (V.take n) (L.take n):=by
 refine⟨by rw[A3b,A3b,h.1],fun i k D=>?_⟩
 rw[A3b]at k D
 rw[A4u,A4u];exact h.2 i (by omega) (by omega)
def jX{K:Nat->Nat->LA->Bool->LA->O R}{x:Int}{v:Rat}{d:RatD}{g e:Bool}{L:Hk}{V:List RatD}{n:Nat}(hV:VOk V L)(k:d.can v)(G:n<=L.length)(I:L.length<=30000000)
  (h:∀ V',VOk V' (L.take n++[(x,v)])->K (L.take n++[(x,v)]).length (L.take n++[(x,v)]).length (Am (F4 (L.take n++[(x,v)]))) (e||(g||false)) (V'.flatMap RatD.av)=X) :
  G9 N K x (Am (F4 L)) e (V.flatMap RatD.av) g d.av n n=X:=by
 have hV1:=hV.1
 unfold G9
 rw[show ble (n+1) 140737488355328=true by rw[A3p];omega,show ble ((n+1)*8) 140737488355328=true by rw[A3p];omega,show ble ((n+1)*56) 140737488355328=true by rw[A3p];omega]
 show K (n+1) (n+1) ((Am (F4 L)).take (n*1)++[.int .i64 x]) (e||(g||false)) ((V.flatMap RatD.av).take (n*3)++d.av)=X
 have:=h (V.take n++[d]) ((hV.take n).snoc k)
 have e1:(L.take n++[(x,v)]).length=n+1:=by rw[A3d,A3b];simp;omega
 have D:Am (F4 (L.take n++[(x,v)]))=(Am (F4 L)).take (n*1)++[.int .i64 x]:=by
  unfold F4 Am;simp[A9m]
 have e3:(V.take n++[d]).flatMap RatD.av=(V.flatMap RatD.av).take (n*3)++d.av:=by
  rw[A5r,Aq5 (by omega)];simp
 rw[e1,D,e3]at this
 exact this
def Au1{K:Nat->Nat->LA->Bool->LA->O R}{x:Int}{v:Rat}{d:RatD}{g e:Bool}{L:Hk}{V:List RatD}{M:Nat}(hV:VOk V L)(G:d.can v)(hP:PB M L)(hv:qm v<=M)(hx:-10000000<=x/\x<=10000000)(D:fit (100*M+1000) N)
  (h:∀ V',VOk V' (JB L x v)->K (JB L x v).length (JB L x v).length (Am (F4 (JB L x v))) (e||(g||false)) (V'.flatMap RatD.av)=X) :
  Ex N x d.av g L.length L.length (Am (F4 L)) e (V.flatMap RatD.av) K=X:=by
 have I:=hP.n;have hV1:=hV.1
 rw[Xb];unfold Nr
 by_cases h2:2<=L.length
 ·have i1:L.length - 1<L.length:=by omega
  have i2:L.length - 2<L.length:=by omega
  have xl:(F4 L).length=L.length:=A4y ..
  have x1:(F4 L)[L.length - 1]'(by omega)=L[L.length - 1].1:=A4i ..
  have x2:(F4 L)[L.length - 2]'(by omega)=L[L.length - 2].1:=A4i ..
  have b1:=hP.x _ (A24 i1);have b2:=hP.x _ (A24 i2)
  have q1:=hP.q _ (A24 i1);have q2:=hP.q _ (A24 i2)
  have c1:=hV.2 (L.length - 1) (by omega) i1;have c2:=hV.2 (L.length - 2) (by omega) i2
  have w1:wrap .i64 ((L.length:Int) - 1)=((L.length - 1:Nat):Int):=yP (k:=1) (by omega) (by omega)
  have w2:wrap .i64 ((L.length:Int) - 2)=((L.length - 2:Nat):Int):=yP (k:=2) (by omega) (by omega)
  have wx:wrap .i64 (x - L[L.length - 1].1)=x - L[L.length - 1].1:=Bc _ (by omega)
  have wy:wrap .i64 (L[L.length - 1].1 - L[L.length - 2].1)=L[L.length - 1].1 - L[L.length - 2].1:=Bc _ (by omega)
  rw[decide_eq_true (show((L.length:Int)>=2) by omega),ct,w1,w2,Aa i1,ct,Aa i2,ct,Ayi (by omega),ct,Ayi (by omega),ct,A1a (by omega),A1a (by omega)]
  have s1:=Om L[L.length - 1].2 L[L.length - 2].2
  have s2:=Om v L[L.length - 1].2
  have t1:=qi (v:=x - L[L.length - 1].1) (by omega)
  have t2:=qi (v:=L[L.length - 1].1 - L[L.length - 2].1) (by omega)
  have m1:=Kb (L[L.length - 1].2 - L[L.length - 2].2) ((x - L[L.length - 1].1:Int):Rat)
  have m2:=Kb (v - L[L.length - 1].2) ((L[L.length - 1].1 - L[L.length - 2].1:Int):Rat)
  refine kF c1 c2 (D.le (by omega)) fun a ha=>?_
  rw[Awb (by omega),x1,wx]
  refine D0 (by omega) (by have:=D.1;omega) fun b hb=>?_
  refine SU ha hb (D.le (by omega)) fun c hc=>?_
  rw[c3,ct,Y9,b3,ct]
  refine kF G c1 (D.le (by omega)) fun a' T=>?_
  rw[Awb (by omega),x1,ct,Awb (by omega),x2,wy]
  refine D0 (by omega) (by have:=D.1;omega) fun b' Y=>?_
  refine SU T Y (D.le (by omega)) fun c' hc'=>?_
  rw[c3,ct,b3,ct,b3,ct,Y9,Y9,Atp (hc.is (m:=2*M+100) (by omega)) (hc'.is (m:=2*M+100) (by omega)) (D.le (by omega)),Awc]
  have ea:Ahv L x v=decide ((L[L.length - 1].2 - L[L.length - 2].2)*((x - L[L.length - 1].1:Int):Rat)=(v - L[L.length - 1].2)*((L[L.length - 1].1 - L[L.length - 2].1:Int):Rat)):=by
   unfold Ahv;rw[dif_pos h2,A3i,A3i];rfl
  rw[<-ea]
  unfold JB at h
  cases hA:Ahv L x v with
  |true =>
   rw[hA]at h
   rw[ct,decide_eq_true (show(0:Int)<=0 by omega),decide_eq_true (show(0:Int)<=((L.length - 1:Nat):Int) by omega),decide_eq_true (show((L.length - 1:Nat):Int)<=(L.length:Int) by omega),decide_eq_true (show(L.length:Int)<=(L.length:Int) by omega)]
   rw[show(if true=true then L.take (L.length - 1)else L)=L.take (L.length - 1)from rfl]at h
   exact jX (N:=N) (n:=L.length - 1) hV G (by omega) I h
  |false =>
   rw[hA]at h
   rw[cf]
   rw[show(if false=true then L.take (L.length - 1)else L)=L from rfl]at h
   refine jX (N:=N) hV G (A2s _) I ?_
   rw[A3l];exact h
 ·rw[decide_eq_false (show ¬ ((L.length:Int)>=2) by omega),cf]
  refine jX (N:=N) hV G (A2s _) I ?_
  have:JB L x v=L.take L.length++[(x,v)]:=by
   unfold JB Ahv;rw[dif_neg h2];simp
  rw[<-this];exact h
def S9(L:Hk)(V:List RatD)(j:Bool):LA:=[.imm (Am (F4 L)) L.length 1 false false,.imm (V.flatMap RatD.av) L.length 3 false j]
def fW(L:Hk)(x:Int)(v:Rat):(JB L x v).length<=L.length+1:=by unfold JB;split<;>simp<;>omega
def Afk{L:Hk}{x:Int}{v:Rat}{p:Int×Rat}(h:p∈JB L x v):p∈L\/p=(x,v):=by
 unfold JB at h
 rcases A27.1 h with h|h
 ·left;split at h
  ·exact A7v h
  ·exact h
 ·right;simpa using h
def PB.add{M:Nat}{L:Hk}{x:Int}{v:Rat}(h:PB M L)(G:qm v<=M)(I:-10000000<=x/\x<=10000000)(T:L.length<30000000):PB M (JB L x v):=by
 refine⟨fun p k=>?_,fun p k=>?_,by have:=fW L x v;omega⟩
 ·rcases Afk k with D|rfl
  ·exact h.x _ D
  ·exact I
 ·rcases Afk k with D|rfl
  ·exact h.q _ D
  ·exact G
def K2(l:List Int):(Am l).length=l.length:=by unfold Am;simp
def Aq6(L:Hk):(Am (F4 L)).take (L.length*1)=Am (F4 L):=A2t (by rw[K2];unfold F4;simp)
def Aq7{L:Hk}{V:List RatD}(h:VOk V L):(V.flatMap RatD.av).take (L.length*3)=V.flatMap RatD.av:=A2t (by rw[nQ,h.1];omega)
def Atr{w p:Int}(h:-1048576<=w/\w<=1048576/\-1048576<=p/\p<=1048576):-1099511627776<=w*p/\w*p<=1099511627776:=by
 have k:=A5c w p
 have D:w.natAbs*p.natAbs<=1048576*1048576:=A46 (by omega) (by omega)
 omega
def Aky{K:LA->Bool->O R}{u:UnitD}{M:Nat}{o:Bool}(Y:Av9 u.segs.l)(h8:u.segs.l.length<=8)(hM:2<=M)(I:fit (100*M+1000) N):∀(m j k:Nat)(x c:Int)(L:Hk)(V:List RatD)(d:RatD),j+m=u.segs.l.length->m<k->d.can (c:Rat)->VOk V L->PB M L->L.length<=j+1 ->
  -1048576*((j:Int)+1)<=x->x<=1048576*((j:Int)+1)->-2000000000000*(j:Int)<=c->c<=2000000000000*(j:Int) ->
  (∀ V',VOk V' (Anw (u.segs.l.drop j) x c L)->PB M (Anw (u.segs.l.drop j) x c L)->K (S9 (Anw (u.segs.l.drop j) x c L) V' false) false=X) ->
  D4 N K (u.segs.l.flatMap SegD.av) u.segs.l.length o k x (u.segs.l.length:Int) (j:Int) L.length L.length d.av (Am (F4 L)) false (V.flatMap RatD.av)=X
|0,j,k+1,x,c,L,V,d,hj,_,hd,hV,hP,hL,_,_,_,_,h=>by
  rw[D4];unfold Iy
  rw[Rc (by omega),cf,Aq6,Aq7 hV]
  have:=h V
  rw[Jx (by omega),Anw]at this
  exact this hV hP
|m+1,j,k+1,x,c,L,V,d,hj,hfu,hd,hV,hP,hL,x1,x2,c1,c2,h=>by
  rw[D4];unfold Iy
  have D:j<u.segs.l.length:=by omega
  have hr:=Y u.segs.l[j] (A24 D)
  rw[Ox D,ct,Aa D,ct,jV D]
  have p0:take 2 ((AV.int .i64 u.segs.l[j].width)::(AV.int .i64 u.segs.l[j].price)::(u.segs.l.drop (j+1)).flatMap SegD.av)=[.int .i64 u.segs.l[j].width,.int .i64 u.segs.l[j].price]:=rfl
  rw[p0,show ble 2 (List.length ((AV.int .i64 u.segs.l[j].width)::(AV.int .i64 u.segs.l[j].price)::(u.segs.l.drop (j+1)).flatMap SegD.av))=true by simp,ct]
  rw[show((!o)||Bb [AV.int .i64 u.segs.l[j].width,.int .i64 u.segs.l[j].price])=true by cases o<;>rfl,ct]
  rw[show((beq (List.length [AV.int .i64 u.segs.l[j].width,.int .i64 u.segs.l[j].price]) 2)&&((ble 2 2)&&(!false)))=true from rfl,ct]
  rw[s9,b3,ct,s9]
  simp only[pV]
  have iw:=qi (v:=u.segs.l[j].width) (by omega)
  have ip:=qi (v:=u.segs.l[j].price) (by omega)
  have hp:=Atr hr
  have ic:=qi (v:=c) (by omega)
  have m1:=Kb (u.segs.l[j].width:Rat) (u.segs.l[j].price:Rat)
  refine D0 (by omega) (by have:=I.1;omega) fun a ha=>?_
  refine D0 (by omega) (by have:=I.1;omega) fun b hb=>?_
  refine SU ha hb (I.le (by omega)) fun e he=>?_
  rw[Y9]
  refine kF hd he (I.le (by omega)) fun d' G=>?_
  rw[<-A73,<-A3i]at G
  rw[Axp,ct,Ant,b3,ct,Y9,Bc _ (by omega),wS (by omega)]
  have T:qm ((c - u.segs.l[j].width*u.segs.l[j].price:Int):Rat)<=M:=A4f (qi (by omega)) hM
  refine Au1 hV G hP T (by omega) I fun V' hV'=>?_
  refine Aky Y h8 hM I m (j+1) k _ _ _ V' d' (by omega) (by omega) G hV' (hP.add T (by omega) (by omega)) (by have:=fW L (x+u.segs.l[j].width) ((c - u.segs.l[j].width*u.segs.l[j].price:Int):Rat);omega) (by omega) (by omega) (by omega) (by omega) fun V2 h1 h2=>?_
  have:=h V2
  rw[Fg D,Anw,<-A73,<-A3i]at this
  exact this h1 h2
def Za(u:UnitD):Hk:=Anw u.segs.l u.min 0 [(u.min,0)]
def Ayj{K:LA->Bool->O R}{u:UnitD}{M:Nat}{o:Bool}(L:Av9 u.segs.l)(T:u.segs.l.length<=8)(hm:-1048576<=u.min/\u.min<=1048576)(hM:2<=M)(D:fit (100*M+1000) N)
  (h:∀ V,VOk V (Za u)->PB M (Za u)->K (S9 (Za u) V false) false=X):Kv N u.av o K=X:=by
 rw[Xc];unfold Ns
 rw[u2]
 refine D0 (by omega) (by have:=D.1;omega) fun a Y=>?_
 rw[show(beq (List.length a.av) 3&&ble 3 3)=true from rfl,ct,u2]
 refine D0 (by omega) (by have:=D.1;omega) fun b hb=>?_
 rw[c3,ct,u4]
 have z2:qm ((0:Int):Rat)<=2:=qi (by omega)
 refine Aky L T hM D u.segs.l.length 0 N u.min 0 [(u.min,((0:Int):Rat))] [a] b (by omega) (by have:=D.1;omega) hb ⟨rfl,fun i G I=>?_⟩ ⟨fun p k=>?_,fun p k=>?_,by simp⟩ (by simp) (by omega) (by omega) (by omega) (by omega) fun V G I=>?_
 ·have:i=0:=by simp at G;omega
  subst this;exact Y
 ·simp at k;subst k;show -10000000<=u.min/\u.min<=10000000;omega
 ·simp at k;subst k;show qm ((0:Int):Rat)<=M;omega
 ·rw[A3m]at G I;exact h V G I
def Awd{K:LA->O R}{ys:List Int}(I:1<=ys.length)(L:ys.length<=16777216)(hr:∀ t∈ys,-9223372036854775808<=t/\t<=9223372036854775807)(h:K (Am (TF ys))=X):E8 N ys.length (Am ys) K=X:=by
 rw[Fj];unfold Fp
 have e1:(Am ys).take ys.length=Am ys:=A2t (by rw[K2];omega)
 have k:(Am ys).drop ys.length=[]:=A3v (by rw[K2];omega)
 have e3:(Am ys).all Abg=true:=by
  rw[A5t];unfold Am;intro x D
  obtain⟨t,G,rfl⟩:=A3w.1 D
  have:=hr t G
  show(decide _&&decide _)=true
  rw[decide_eq_true this.1,decide_eq_true this.2];rfl
 have e4:(Am ys).map Aot=ys:=by unfold Am;rw[A51];exact List.map_id _
 rw[e1,k,e3,e4,show ble 1 ys.length=true by rw[A3p];omega,show ble ys.length 16777216=true by rw[A3p];omega]
 rw[A4x];exact h
def Aq8(ys:List Int):(TF ys).Pairwise (·<=·):=by
 have:=List.pairwise_mergeSort (le:=fun x y:Int=>decide (x<=y)) (fun a b c k D=>by simp at *;omega) (fun a b=>by simp;omega) ys
 exact this.imp fun h=>by simpa using h
def Anx{ys:List Int}{t:Int}:t∈TF ys↔t∈ys:=List.mem_mergeSort
def kN{ys:List Int}:(TF ys).length=ys.length:=A86 _
def Ayk{l:List Int}{j:Nat}(h:j<l.length){f:Int->O R}:Aj .i64 (drop j (Am l)) f=f l[j]:=by
 have:=Awb (R:=R) h (f:=f)
 rwa [A2u,A22,A3g]at this
def Asc.of{P:List Int}(h:P.Pairwise (·<·)):Asc P:=fun i hi=>A4h.1 h i (i+1) (by omega) hi (by omega)
def Az7{K:Nat->LA->O R}{Q:Int->O R}{b:LA}{xs:List Int}(hs:xs.Pairwise (·<=·))(hN:xs.length<=30000000)
  (h:∀ P Gq,Asc P->(∀ t,t∈P↔t∈xs)->P.length<=xs.length->K P.length (Am P++Gq)=X) {i:Nat} (hi:i<xs.length):∀(m f k:Nat)(P G:List Int),i+f+m=xs.length->m<k->1<=f->P.Pairwise (·<·)->(∀ t,t∈P↔t∈xs.take (i+f))->P.length<=i+f - 1->G.length=xs.length->G.take P.length=P->G.drop (i+f - 1)=xs.drop (i+f - 1) ->
  B5 N Q K xs.length b k (P.length:Int) i (xs.length - i) (f:Int) (Am G)=X
|0,f,k+1,P,G,hm,_,T,I,D,hl,hG,hGt,hGd=>by
  rw[B5];unfold Fn
  rw[Rc (by omega),cf,decide_eq_true (show(0:Int)<=P.length by omega),decide_eq_true (show(P.length:Int)<=(xs.length:Nat) by omega),decide_eq_true (show(xs.length:Int)<=(xs.length:Nat) by omega),decide_eq_true (show(0:Int)<=0 by omega)]
  show K P.length (D2 (Am G) (0+P.length*1) _)=X
  unfold D2
  rw[A22,A3g,A38,show(Am G).take P.length=Am P by unfold Am;rw[<-A9m,hGt]]
  refine h P _ (Asc.of I) (fun t=>?_) (by omega)
  rw[D t,A2t (by omega)]
| m+1,f,k+1,P,G,hm,hfu,T,I,D,hl,hG,hGt,hGd=>by
  rw[B5];unfold Fn
  have Y:G[i+f]'(by omega)=xs[i+f]:=by
   have:=congrArg (fun l=>l[1]?) hGd
   simp only[A3z]at this
   rw[show i+f - 1+1=i+f by omega,A2r (by omega),A2r (by omega)]at this
   exact A72 this
  have g0:G[i+f - 1]'(by omega)=xs[i+f - 1]:=by
   have:=congrArg (fun l=>l[0]?) hGd
   simp only[A3z]at this
   rw[A30,A2r (by omega),A2r (by omega)]at this
   exact A72 this
  have e0:wrap .i64 ((f:Int) - 1)=((f - 1:Nat):Int):=yP T (by omega)
  have d1:G.drop (i+(f+1) - 1)=xs.drop (i+(f+1) - 1):=by
   have:=congrArg (drop 1) hGd
   rw[A69,A69]at this
   rwa [show i+f - 1+1=i+(f+1) - 1 by omega]at this
  have tk:xs.take (i+(f+1))=xs.take (i+f)++[xs[i+f]]:=by rw[<-A4d,A39 (by omega)]
  rw[Ox (by omega),ct,Aa (by omega),ct,A2u,A3g,Ayk (by omega),e0,Aa (by omega),ct,A2u,A3g,show i+(f - 1)=i+f - 1 by omega,Ayk (by omega),Y,g0]
  have le1:xs[i+f - 1]<=xs[i+f]:=A4h.1 hs _ _ (by omega) (by omega) (by omega)
  by_cases L:xs[i+f]=xs[i+f - 1]
  ·rw[show(xs[i+f] != xs[i+f - 1])=false by rw[L];simp,cf,wS (by omega)]
   refine Az7 hs hN h hi m (f+1) k P G (by omega) (by omega) (by omega) I (fun t=>?_) (by omega) hG hGt d1
   rw[tk,D t,A27,A5w]
   constructor
   ·exact .inl
   ·rintro(h|rfl)
    ·exact h
    ·rw[L];exact A5x.2 ⟨i+f - 1,by omega,rfl⟩
  ·rw[show(xs[i+f] != xs[i+f - 1])=true by simp[L],ct,Aa (by omega),Ayk (by omega),Y,ct,K2,A22,A2u,A3g,show(beq 1 1&&(ble (P.length+1) G.length&&!false))=true by
    rw[show ble (P.length+1) G.length=true by rw[A3p];omega];rfl,ct,wS (by omega),wS (by omega)]
   have es:(Am G).set P.length (.int .i64 xs[i+f])=Am (G.set P.length xs[i+f]):=by unfold Am;rw[A8x]
   have el:(P++[xs[i+f]]).length=P.length+1:=by simp
   rw[es,<-el]
   refine Az7 hs hN h hi m (f+1) k (P++[xs[i+f]]) _ (by omega) (by omega) (by omega) ?_ (fun t=>?_) (by omega) (by simpa using hG) ?_ ?_
   ·rw[A6p]
    refine⟨I,by simp,fun t ht y hy=>?_⟩
    rw[A5w]at hy;subst hy
    obtain⟨j,hj,rfl⟩:=A5x.1 ((D t).1 ht)
    by_cases ej:j=i+f - 1
    ·subst ej;omega
    ·have:=A4h.1 hs j (i+f - 1) (by omega) (by omega) (by omega);omega
   ·rw[tk,A27,A27,D t]
   ·rw[el,List.take_set,A39 (by omega),hGt,A88 _ _ (A2s _),A6d];rfl
   ·rw[A9h (by omega)];exact d1
def A1b{K:Nat->LA->O R}{xs:List Int}(hs:xs.Pairwise (·<=·))(hN:xs.length<=30000000)(hNN:40000000<=N)
  (h:∀ P Gq,Asc P->(∀ t,t∈P↔t∈xs)->P.length<=xs.length->K P.length (Am P++Gq)=X):∀(m d k:Nat),d+m=xs.length->m<k->1<=d->(xs.take d).Pairwise (·<·) ->
  Bo N K xs.length (Am xs) k (d:Int)=X
|0,d,k+1,Y,_,I,D=>by
  rw[Bo];unfold Fo
  rw[Rc (by omega),cf]
  have:=h xs [] (Asc.of (by rwa [A2t (by omega)]at D)) (fun t=>Iff.rfl) (A2s _)
  rwa [A4x]at this
| m+1,d,k+1,Y,hfu,I,D=>by
  rw[Bo];unfold Fo
  have e0:wrap .i64 ((d:Int) - 1)=((d - 1:Nat):Int):=yP I (by omega)
  rw[Ox (by omega),ct,Aa (by omega),ct,Awb (by omega),e0,Aa (by omega),ct,Awb (by omega)]
  have le1:xs[d - 1]<=xs[d]:=A4h.1 hs _ _ (by omega) (by omega) (by omega)
  by_cases G:xs[d]=xs[d - 1]
  ·rw[show(xs[d]==xs[d - 1])=true by simp[G],ct,decide_eq_true (show(0:Int)<=(d:Int) by omega),decide_eq_true (show(d:Int)<=(xs.length:Int) by omega),decide_eq_true (show(xs.length:Int)<=(xs.length:Int) by omega)]
   show B5 N _ K xs.length (Am xs) N (d:Int) (0+d*1) (xs.length - d) ((1:Nat):Int) (Am xs)=X
   rw[A22,A3g]
   have L:(xs.take d).length=d:=by rw[A3b];omega
   have:=Az7 (N:=N) (Q:=Bo N K xs.length (Am xs) k) (b:=Am xs) hs hN h (i:=d) (by omega) m 1 N (xs.take d) xs (by omega) (by omega) (A2s _) D (fun t=>by
    rw[A39 (by omega),A27,A5w]
    constructor
    ·exact .inl
    ·rintro(h|rfl)
     ·exact h
     ·rw[G];exact A5x.2 ⟨d - 1,by omega,rfl⟩) (by omega) rfl (by rw[L]) rfl
   rw[L]at this;exact this
  ·rw[show(xs[d]==xs[d - 1])=false by simp[G],cf,wS (by omega)]
   refine A1b hs hN hNN h m (d+1) k (by omega) (by omega) (by omega) ?_
   rw[A39 (by omega),A6p]
   refine⟨D,by simp,fun t ht y T=>?_⟩
   rw[A5w]at T;subst T
   obtain⟨j,hj,rfl⟩:=A5x.1 ht
   by_cases ej:j=d - 1
   ·subst ej;omega
   ·have:=A4h.1 hs j (d - 1) (by omega) (by omega) (by omega);omega
def Anz{K:Nat->LA->O R}{xs:List Int}(hs:xs.Pairwise (·<=·))(k:2<=xs.length)(hN:xs.length<=30000000)(hNN:40000000<=N)
  (h:∀ P Gq,Asc P->(∀ t,t∈P↔t∈xs)->P.length<=xs.length->K P.length (Am P++Gq)=X):C0 N xs.length (Am xs) K=X:=by
 rw[Qr];unfold H2
 rw[decide_eq_false (by omega),cf]
 refine A1b hs hN hNN h (xs.length - 1) 1 N (by omega) (by omega) (by omega) ?_
 match xs,k with
|a::r,_=>simp
end
end Gx.Uo
namespace Gx
open Go Go.Proofs
section
variable{R:Type}
def Ats(q:Rat):q*(q.den:Rat)=(q.num:Rat):=by
 have D:(q.den:Rat)≠0:=by
  have:=q.den_pos
  exact A9x (A74.2 this)
 have k:q=(q.num:Rat)/((q.den:Int):Rat):=by rw[<-Rat.divInt_eq_div,Rat.num_divInt_den]
 have G:((q.den:Int):Rat)=(q.den:Rat):=rfl
 rw[G]at k
 calc q*(q.den:Rat)=(q.num:Rat)/(q.den:Rat)*(q.den:Rat):=by rw[<-k]
  _=q.num:=A9r D
end
end Gx
namespace Gx
open Go Go.Proofs
set_option maxRecDepth 100000
noncomputable section
variable{R:Type}(N:Nat)
def F5(r0:Int->Bool->O R)(b:LA)(a:Nat)(d f:Bool)(c:Int)(k0:Int->Int->Int->O R)(i g h:Int):O R:=(cond (decide (g<h)) (cond (Ab (wrap .i64 (Int.fdiv (wrap .u64 (wrap .i64 (g+h))) (2 ^ 1))) a) (Aj .i64 (b.drop (((wrap .i64 (Int.fdiv (wrap .u64 (wrap .i64 (g+h))) (2 ^ 1))).toNat)*1)) fun j=>X6 N j c fun l=>cond l (k0 i (wrap .i64 ((wrap .i64 (Int.fdiv (wrap .u64 (wrap .i64 (g+h))) (2 ^ 1)))+1)) h) (k0 i g (wrap .i64 (Int.fdiv (wrap .u64 (wrap .i64 (g+h))) (2 ^ 1))))) none) (cond ((decide (g<i))==true) (cond (Ab g a) (Aj .i64 (b.drop (g.toNat*1)) fun m=>cond ((m==c)==false) (cond (Ab g a) (Aj .i64 (b.drop (g.toNat*1)) fun o=>Yr N o fun p=>cond (p==true) (Yr N c fun q=>r0 g (cond true (cond false true (cond true q false)) false)) (r0 g false)) none) (r0 g true)) none) (r0 g false)))
def Ca(r0:Int->Bool->O R)(b:LA)(a:Nat)(d f:Bool)(c:Int):Nat->Int->Int->Int->O R
|0=>fun _ _ _=>none
|n+1=>F5 N r0 b a d f c (Ca r0 b a d f c n)
def E1(N:Nat)(r0:Int->Bool->O R)(q0:Int->Int->Int->O R)(b:LA)(a:Nat)(d f:Bool)(c:Int):O R:=(q0 (a:Int) 0 (a:Int))
def Dz:=(shut fun N b a d f c r0=>E1 (R:=R) N r0 (Ca N r0 b a d f c N) b a d f c).1
def K3(b a d f c r0):(@Dz R N b a d f c r0)=(E1 N r0 (Ca N r0 b a d f c N) b a d f c):=by rw[Dz,(shut _).2]
def L5:Hints:={H:=hK 3 (hS (hS (hP [0,1,6,7,8] hL) hL) hL)}
def Mz:Oe:=[ri N,uJ N]
def Ys(F:KF R):=Iv Tryz.f132 L5 (Mz N) [] N F
def Ed(F:KF R):Int->Bool->O R:=fun r s=>F (.tup [iv r,.bool s]) []
def Yt(b:LA)(a:Nat)(d f:Bool)(c:Int)(K:St->O R):=fun i g h=>K ⟨[(0,.imm b a 1 d f),(1,iv c),(6,iv i),(7,iv g),(8,iv h)],[]⟩
def Uf(F:KF R)(b a d f c):∀ n,Yt b a d f c (Ao (Ys N F (pz 1360) []) n)=(Ca N (Ed F) b a d f c n):=Gu fun n e=>(B6 (F5 N (Ed F) b a d f c) e:_)
def BD:=Cc N 132 (Mz N) L5 (fun
|[.imm b a 1 d f,.int .i64 c],[]=>some fun _ k=>Dz N b a d f c (Ed k)
| _,_=>none) fun _ _=>by split;intro R F;exact(B6 (E1 N (Ed F) · _ _ _ _ _) ((lW ..).trans (Uf ..)):_).trans (K3 ..).symm;trivial
def BE(b:LA)(c:Bool)(d:Int)(r0:LA->Bool->O R):O R:=(Dd 1 b fun m n=>Dz N m n false c d fun a o=>cond o (Dd 3 (b.drop 1) fun e p=>cond (Ab a p) (cond (ble 3 ((e.drop (a.toNat*3)).length)) (cond ((beq 0 0)&&((beq (((e.drop (a.toNat*3)).take 3).length) 3)&&(beq 3 3))) (cond (ble 3 (((e.drop (a.toNat*3)).take 3).length)) (r0 (((e.drop (a.toNat*3)).take 3).take 3) c) none) none) none) none) (Dd 3 (b.drop 1) fun i q=>cond (Ab a q) (cond (ble 3 ((i.drop (a.toNat*3)).length)) (Dd 3 (b.drop 1) fun j r=>cond (Ab (wrap .i64 (a - 1)) r) (cond (ble 3 ((j.drop (((wrap .i64 (a - 1)).toNat)*3)).length)) (Wn N ((i.drop (a.toNat*3)).take 3) c ((j.drop (((wrap .i64 (a - 1)).toNat)*3)).take 3) c fun f=>cond ((beq 0 0)&&((beq f.length 3)&&(beq 3 3))) (cond (ble 3 f.length) (Dd 1 b fun s t=>cond (Ab a t) (Aj .i64 (s.drop (a.toNat*1)) fun u=>Dd 1 b fun v w=>cond (Ab (wrap .i64 (a - 1)) w) (Aj .i64 (v.drop (((wrap .i64 (a - 1)).toNat)*1)) fun x=>A7 N (wrap .i64 (u - x)) fun y=>Aaf N (f.take 3) false y false fun g af=>cond ((beq 0 0)&&((beq g.length 3)&&(beq 3 3))) (Dd 3 (b.drop 1) fun l z=>cond (Ab (wrap .i64 (a - 1)) z) (cond (ble 3 ((l.drop (((wrap .i64 (a - 1)).toNat)*3)).length)) (cond (ble 3 g.length) (Dd 1 b fun aa ab=>cond (Ab (wrap .i64 (a - 1)) ab) (Aj .i64 (aa.drop (((wrap .i64 (a - 1)).toNat)*1)) fun ac=>A7 N (wrap .i64 (d - ac)) fun ad=>Oj N (g.take 3) false ad false fun ae=>Pv N ((l.drop (((wrap .i64 (a - 1)).toNat)*3)).take 3) c ae false fun h=>cond ((beq 0 0)&&((beq h.length 3)&&(beq 3 3))) (cond (ble 3 h.length) (r0 (h.take 3) false) none) none) none) none) none) none) none) none) none) none) none) none) none) none) none))
def Is:=(shut (@BE R)).1
def EF:@Is R=@BE R:=(shut _).2
def Ww:=Cc N 74 [BD N,G_ N,Cp N,Ap5 N,Vm N,Z8 N] G3 (fun
|[.pagg b c,.int .i64 d],[]=>some fun _ k=>Is N b c d (rF k)
| _,_=>none) fun _ _=>by split;intro R F;dsimp only;rw[EF];kernel_rfl;trivial
def BF(a:LA)(c:Bool)(b d:Int)(r0:LA->O R):O R:=(Dd 3 (a.drop 23) fun g h=>cond (Ab b h) (cond (ble 3 ((g.drop (b.toNat*3)).length)) (A7 N d fun i=>Oj N ((g.drop (b.toNat*3)).take 3) c i false fun e=>cond ((beq 0 0)&&((beq e.length 3)&&(beq 3 3))) (cond (ble 3 e.length) (cond (ble 2 ((a.drop 25).length)) (Is N ((a.drop 25).take 2) c d fun j l=>Pv N (e.take 3) false j l fun m=>Aj .i64 (a.drop 5) fun n=>A7 N n fun o=>Wn N m false o false fun f=>cond ((beq 0 0)&&((beq f.length 3)&&(beq 3 3))) (cond (ble 3 f.length) (r0 (f.take 3)) none) none) none) none) none) none) none)
def O9:=(shut (@BF R)).1
def EG:@O9 R=@BF R:=(shut _).2
def ON:=Cc N 247 [Cp N,Vm N,Ww N,Z8 N,G_ N] G3 (fun
|[.iptr a c,.int .i64 b,.int .i64 d],[]=>some fun _ k=>O9 N a c b d (Dx k)
| _,_=>none) fun _ _=>by split;intro R F;dsimp only;rw[EG];kernel_rfl;trivial
def Ls(h:Int)(b:LA)(c d:Bool)(a:LA)(f:Bool)(e:LA)(g:Int)(r0:LA->O R):O R:=(cond (ble 7 a.length) (Ea N b c (a.take 7) d h fun l m=>cond (ble 2 e.length) (Is N (e.take 2) f l fun n o=>cond (ble 3 ((a.drop 2).length)) (A7 N m fun p=>Oj N ((a.drop 2).take 3) d p false fun q=>Pv N n o q false fun i=>cond ((beq 0 0)&&((beq i.length 3)&&(beq 3 3))) (cond (ble 3 i.length) (O9 N b c g h fun r=>Pv N (i.take 3) false r false fun j=>cond ((beq 0 0)&&((beq j.length 3)&&(beq 3 3))) (cond (ble 3 j.length) (r0 (j.take 3)) none) none) none) none) none) none) none)
def Cl:=(shut (@Ls R)).1
def Pa:@Cl R=@Ls R:=(shut _).2
def IC(b:LA)(c d:Bool)(a:LA)(f:Bool)(e:LA)(g:Int)(F:KF R):LA->O R:=fun s=>F (.pagg s false) [(100000,bN 0 [.iptr b c]),(100001,bP d 0 a),(100002,bP f 0 e),(100003,bN 0 [iv g])]
def LZ:=Cc N 246 [BB N,Ww N,Cp N,Vm N,Z8 N,ON N] G3 (fun
|[.int .i64 h,.optr 100000 0,.optr 100001 0,.optr 100002 0,.optr 100003 0],[(100000,⟨false,false,false,false,0,[.iptr b c],false,none⟩),(100001,⟨false,false,true,d,0,a,false,none⟩),(100002,⟨false,false,true,f,0,e,false,none⟩),(100003,⟨false,false,false,false,0,[.int .i64 g],false,none⟩)]=>some fun _ k=>Cl N h b c d a f e g (IC b c d a f e g k)
| _,_=>none) fun _ _=>by split;intro R F;dsimp only;rw[Pa];kernel_rfl;trivial
def Kg(N:Nat)(r0:LA->Bool->LA->O R)(b:Int)(c:Bool)(a:LA):O R:=(cond (ble 3 a.length) (cond ((beq ((a.take 3).length) 3)&&(ble 3 3)) (r0 [.int .i64 b] (c||false) ((setCells [.bool false,.nsl,.nsl] 0 (a.take 3)).take 3)) none) none)
def N9(N:Nat)(r0:LA->Bool->LA->O R)(q0:O R)(b:Int)(a:LA)(c:Bool):O R:=q0
def F6:=(shut fun N b a c r0=>N9 (R:=R) N r0 (Kg N r0 b c a) b a c).1
def Xk(b a c r0):(@F6 R N b a c r0)=(N9 N r0 (Kg N r0 b c a) b a c):=by rw[F6,(shut _).2]
def BG:Hints:={H:=hK 2 (hJ [0,1,5] hL hL)}
def aW(F:KF R):=Iv Tryz.f123 BG [] [100000] N F
def P7(F:KF R):LA->Bool->LA->O R:=fun d e f=>F (.tup []) [(100000,bN 0 [Bbq 0 1,Bbq 1 1]),(300000,bQ 1 d),(300001,bP e 3 f)]
def aX(b:Int)(c:Bool)(a:LA)(K:St->O R):=K ⟨[(0,.optr 100000 0),(1,iv b),(5,op 0)],[(100000,bN 0 [.nsl,.nsl]),(300000,bP c 0 a)]⟩
def PG(F:KF R)(b c a):aX b c a (A1 (aW N F (pz 85) []))=(Kg N (P7 F) b c a):=by kernel_rfl
def fX:=Cc N 123 [] BG (fun
|[.optr 100000 0,.int .i64 b,.pagg a c],[(100000,⟨false,false,false,false,0,[.nsl,.nsl],false,none⟩)]=>some fun _ k=>F6 N b a c (P7 k)
| _,_=>none) fun _ _=>by split;intro R F;exact(B6 (N9 N (P7 F) · _ _ _) ((jW ..).trans (PG ..)):_).trans (Xk ..).symm;trivial
def fY(r0:LA->Bool->O R)(j:Nat)(i a:LA)(b c:Bool)(d:LA)(f:Bool)(g:LA)(h:Int)(l:LA)(k2:Int->Int->Nat->Nat->LA->Bool->LA->O R)(y s:Int)(v w:Nat)(z:LA)(x:Bool)(aa:LA):O R:=(cond (decide (s<y)) (cond (Ab s j) (Aj .i64 (l.drop (0+(s.toNat*1))) fun ad=>Cl N ad a b c d f g h fun af=>Ex N ad af false v w z x aa fun ag ah ai aj ak=>k2 y (wrap .i64 (s+1)) ag ah ai aj ak) none) (r0 [.imm (z.take (v*1)) v 1 false false,.imm (aa.take (w*3)) w 3 false x] (x||false)))
def Vw(r0:LA->Bool->O R)(j:Nat)(i a:LA)(b c:Bool)(d:LA)(f:Bool)(g:LA)(h:Int)(l:LA):Nat->Int->Int->Nat->Nat->LA->Bool->LA->O R
|0=>fun _ _ _ _ _ _ _=>none
|n+1=>fY N r0 j i a b c d f g h l (Vw r0 j i a b c d f g h l n)
def fZ(r0:LA->Bool->O R)(j:Nat)(i a:LA)(b c:Bool)(d:LA)(f:Bool)(g:LA)(h:Int)(l:LA)(k1:Int->O R)(k2:Int->Int->Nat->Nat->LA->Bool->LA->O R)(ab:Int):O R:=(cond (decide (0<ab)) (cond (Ab 0 j) (Aj .i64 l fun ae=>Cl N ae a b c d f g h fun al=>F6 N ae al false fun am an ao=>k2 ab 1 1 1 am an ao) none) (r0 [.nsl,.nsl] false))
def Vx(r0:LA->Bool->O R)(j:Nat)(i a:LA)(b c:Bool)(d:LA)(f:Bool)(g:LA)(h:Int)(l:LA):Nat->Int->O R
|0=>fun _=>none
|n+1=>fZ N r0 j i a b c d f g h l (Vx r0 j i a b c d f g h l n) (Vw N r0 j i a b c d f g h l n)
def L_(r0:LA->Bool->O R)(m o:Int)(p:Nat)(i a:LA)(b c:Bool)(d:LA)(f:Bool)(g:LA)(h:Int)(k0:Nat->Int->Int->LA->O R)(q1:Nat->LA->Int->O R)(q:Nat)(t r:Int)(u:LA):O R:=(cond (decide (r<t)) (cond (Ab r p) (Aj .i64 (i.drop (0+(r.toNat*1))) fun ac=>cond ((decide (ac>m))==true) (cond (cond true (decide (ac<o)) false) (cond ((ble (q+1) 140737488355328)&&(ble ((q+1)*8) 140737488355328)) (k0 (q+1) t (wrap .i64 (r+1)) ((u.take (q*1))++[.int .i64 ac])) none) (k0 q t (wrap .i64 (r+1)) u)) (k0 q t (wrap .i64 (r+1)) u)) none) (E8 N q u fun ap=>C0 N q ap fun j l=>q1 j l (j:Int)))
def Qs(r0:LA->Bool->O R)(m o:Int)(p:Nat)(i a:LA)(b c:Bool)(d:LA)(f:Bool)(g:LA)(h:Int):Nat->Nat->Int->Int->LA->O R
|0=>fun _ _ _ _=>none
|n+1=>L_ N r0 m o p i a b c d f g h (Qs r0 m o p i a b c d f g h n) (fun j l=>Vx N r0 j i a b c d f g h l N)
def VJ(N:Nat)(r0:LA->Bool->O R)(q0:Nat->Int->Int->LA->O R)(m o:Int)(p:Nat)(i a:LA)(b c:Bool)(d:LA)(f:Bool)(g:LA)(h:Int):O R:=(q0 2 (p:Int) 0 [.int .i64 m,.int .i64 o])
def TG:=(shut fun N m o p i a b c d f g h r0=>VJ (R:=R) N r0 (Qs N r0 m o p i a b c d f g h N) m o p i a b c d f g h).1
def f5(m o p i a b c d f g h r0):(@TG R N m o p i a b c d f g h r0)=(VJ N r0 (Qs N r0 m o p i a b c d f g h N) m o p i a b c d f g h):=by rw[TG,(shut _).2]
def nR:Hints:={H:=hK 2 (hS (hK 1 (hS (hP [0,1,3,8,9,18,19,20] hL) hL)) (hK 3 (hS (hK 1 (hS (hP [3,8,12,41,42,43] hL) hL)) hL))),modes:=[(3,0)]}
def Fq:=Azx (fX N) (DB N) (Eq.refl 123)
def uK:Oe:=[BC N,S8 N,LZ N,Fq N]
def TH(F:KF R):=Iv Tryz.f70 nR (uK N) [100000,100001,100002,100003,100004] N F
def Jy(i a:LA)(b c:Bool)(d:LA)(f:Bool)(g:LA)(h:Int)(F:KF R):LA->Bool->O R:=fun aq ar=>F (.pagg aq ar) [(100000,bQ 1 i),(100001,bN 0 [.iptr a b]),(100002,bP c 0 d),(100003,bP f 0 g),(100004,bN 0 [iv h])]
def Afl(j:Nat)(i a:LA)(b c:Bool)(d:LA)(f:Bool)(g:LA)(h:Int)(l:LA)(K:St->O R):=fun y s v w z x aa=>K ⟨[(3,.fn 246 [.optr 100001 0,.optr 100002 0,.optr 100003 0,.optr 100004 0]),(8,op 0),(12,op 1),(41,Bbq 2 j),(42,iv y),(43,iv s)],[(100000,bQ 1 i),(100001,bN 0 [.iptr a b]),(100002,bP c 0 d),(100003,bP f 0 g),(100004,bN 0 [iv h]),(300000,bN 0 [.nsl,.nsl]),(300001,bN 0 [Bbq 3 v,Bbq 4 w]),(300002,bQ 1 l),(300003,bQ 1 z),(300004,bP x 3 aa)]⟩
def Afm(j:Nat)(i a:LA)(b c:Bool)(d:LA)(f:Bool)(g:LA)(h:Int)(l:LA)(K:St->O R):=fun ab=>K ⟨[(3,.fn 246 [.optr 100001 0,.optr 100002 0,.optr 100003 0,.optr 100004 0]),(8,op 0),(12,op 1),(41,Bbq 2 j),(42,iv ab),(43,iv 0)],[(100000,bQ 1 i),(100001,bN 0 [.iptr a b]),(100002,bP c 0 d),(100003,bP f 0 g),(100004,bN 0 [iv h]),(300000,bN 0 [.nsl,.nsl]),(300001,bN 0 [.nsl,.nsl]),(300002,bQ 1 l)]⟩
def Afn(m o:Int)(p:Nat)(i a:LA)(b c:Bool)(d:LA)(f:Bool)(g:LA)(h:Int)(K:St->O R):=fun q t r u=>K ⟨[(0,iv m),(1,iv o),(3,.fn 246 [.optr 100001 0,.optr 100002 0,.optr 100003 0,.optr 100004 0]),(8,op 0),(9,Bbq 1 q),(18,.own 100000 0 p),(19,iv t),(20,iv r)],[(100000,bQ 1 i),(100001,bN 0 [.iptr a b]),(100002,bP c 0 d),(100003,bP f 0 g),(100004,bN 0 [iv h]),(300000,bN 0 [.nsl,.nsl]),(300001,bQ 1 u)]⟩
def uL(F:KF R)(j i a b c d f g h l):∀ n,Afl j i a b c d f g h l (Ao (TH N F (pz 349508) []) n)=(Vw N (Jy i a b c d f g h F) j i a b c d f g h l n):=Gu fun n e=>(B6 (fY N (Jy i a b c d f g h F) j i a b c d f g h l) e:_)
def uM(F:KF R)(j i a b c d f g h l):∀ n,Afm j i a b c d f g h l (Ao (TH N F (pz 349508) []) n)=(Vx N (Jy i a b c d f g h F) j i a b c d f g h l n):=Gu fun n e=>(QH (fZ N (Jy i a b c d f g h F) j i a b c d f g h l) e (uL ..):_)
def uO(F:KF R)(m o p i a b c d f g h):∀ n,Afn m o p i a b c d f g h (Ao (TH N F (pz 1348) []) n)=(Qs N (Jy i a b c d f g h F) m o p i a b c d f g h n):=Gu fun n e=>(QH (L_ N (Jy i a b c d f g h F) m o p i a b c d f g h) e (rD fun j l=>(lW ..).trans (uM ..)):_)
def Aiz:=Cc N 70 (uK N) nR (fun
|[.int .i64 m,.int .i64 o,.own 100000 0 p,.fn 246 [.optr 100001 0,.optr 100002 0,.optr 100003 0,.optr 100004 0]],[(100000,⟨false,false,true,false,1,i,false,none⟩),(100001,⟨false,false,false,false,0,[.iptr a b],false,none⟩),(100002,⟨false,false,true,c,0,d,false,none⟩),(100003,⟨false,false,true,f,0,g,false,none⟩),(100004,⟨false,false,false,false,0,[.int .i64 h],false,none⟩)]=>some fun _ k=>TG N m o p i a b c d f g h (Jy i a b c d f g h k)
| _,_=>none) fun _ _=>by split;rename_i m o p i a b c d f g h;intro R F;exact(B6 (VJ N (Jy i a b c d f g h F) · m o p i a b c d f g h) ((lW ..).trans (uO ..)):_).trans (f5 ..).symm;trivial
def H3(r0:LA->Bool->O R)(i:LA)(g:Nat)(c:Bool)(a:LA)(d:Bool)(f:Int)(b:LA)(j:Bool)(h:LA)(k0:Int->Int->Nat->Int->Int->LA->LA->O R)(p q:Int)(l:Nat)(r o:Int)(m s:LA):O R:=(cond (decide (o<r)) (cond (Ab o g) (Aj .i64 (i.drop (o.toNat*1)) fun t=>Aj .i64 (m.drop 7) fun x=>Aj .i64 (m.drop 6) fun y=>Aj .i64 (m.drop 6) fun z=>Aj .i64 (m.drop 16) fun aa=>cond ((ble (l+3) 140737488355328)&&(ble ((l+3)*8) 140737488355328)) (k0 p q (l+3) r (wrap .i64 (o+1)) m ((s.take (l*1))++[.int .i64 (wrap .i64 (t - x)),.int .i64 (wrap .i64 (t+y)),.int .i64 (wrap .i64 ((wrap .i64 (t+z)) - aa))])) none) none) (TG N p q l s a d j h c b f fun u ab=>cond ((beq 0 0)&&((beq u.length 2)&&(beq 2 2))) (cond (ble 2 u.length) (r0 (u.take 2) ab) none) none))
def Dn(r0:LA->Bool->O R)(i:LA)(g:Nat)(c:Bool)(a:LA)(d:Bool)(f:Int)(b:LA)(j:Bool)(h:LA):Nat->Int->Int->Nat->Int->Int->LA->LA->O R
|0=>fun _ _ _ _ _ _ _=>none
|n+1=>H3 N r0 i g c a d f b j h (Dn r0 i g c a d f b j h n)
def L7(r0:LA->Bool->O R)(q0:LA->Nat->Bool->LA->Int->Int->Nat->Int->Int->LA->LA->O R)(a:LA)(d:Bool)(f:Int)(b:LA)(c:Bool):O R:=(cond (ble 22 a.length) (cond ((beq 0 0)&&((beq ((a.take 22).length) 22)&&(beq 22 22))) (cond (ble 2 b.length) (Fi N a d f (b.take 2) c fun h j=>cond ((beq 0 0)&&((beq h.length 7)&&(beq 7 7))) (Aj .i64 ((a.take 22).drop 2) fun ac=>cond (ble 2 b.length) (Jh N (b.take 2) c fun ad=>Aj .i64 ((a.take 22).drop 7) fun ae=>Aj .i64 ((a.take 22).drop 3) fun af=>cond (ble 2 b.length) (Lm N (b.take 2) c fun ag=>Aj .i64 ((a.take 22).drop 6) fun ah=>Aj .i64 ((a.take 22).drop 3) fun ai=>Aj .i64 ((a.take 22).drop 16) fun aj=>Aj .i64 ((a.take 22).drop 3) fun ak=>Aj .i64 ((a.take 22).drop 6) fun al=>Aj .i64 ((a.take 22).drop 7) fun am=>Dd 1 (a.drop 25) fun w v=>cond ((!d)||(Bb w)) (cond ((ble (2+v) 140737488355328)&&(ble ((2+v)*8) 140737488355328)) (Dd 1 b fun i g=>q0 i g j h (Fc ac (wrap .i64 (ad - ae))) (Cn af (wrap .i64 (ag+ah))) (2+v) (g:Int) 0 (a.take 22) ([.int .i64 (wrap .i64 (ai - aj)),.int .i64 (wrap .i64 ((wrap .i64 (ak - al)) - am))]++w)) none) none) none) none) none) none) none) none)
def Ec:=(shut fun N a d f b c r0=>L7 (R:=R) N r0 (fun i g j h=>Dn N r0 i g c a d f b j h N) a d f b c).1
def Vy(a d f b c r0):(@Ec R N a d f b c r0)=(L7 N r0 (fun i g j h=>Dn N r0 i g c a d f b j h N) a d f b c):=by rw[Ec,(shut _).2]
def Xl:Hints:={H:=hK 5 (hS (hK 1 (hS (hP [3,4,5,6,7,8,9,10,11,59,60,61] hL) hL)) hL),modes:=[(3,0)]}
def BH:Oe:=[IA N,Ue N,Wv N,Aiz N]
def VX(F:KF R):=Iv Tryz.f232 Xl (BH N) [] N F
def VY(i:LA)(g:Nat)(c:Bool)(a:LA)(d:Bool)(f:Int)(b:LA)(j:Bool)(h:LA)(K:St->O R):=fun p q l r o m s=>K ⟨[(3,op 0),(4,op 1),(5,op 2),(6,op 3),(7,op 4),(8,op 5),(9,iv p),(10,iv q),(11,Bbq 6 l),(59,.imm i g 1 false c),(60,iv r),(61,iv o)],hq [bN 0 [.iptr a d],bN 0 [iv f],bP c 0 b,bN 0 [.nsl,.nsl],bP d 0 m,bP j 0 h,bQ 1 s]⟩
def MA(F:KF R)(i g c a d f b j h):∀ n,VY i g c a d f b j h (Ao (VX N F (pz 87364) []) n)=(Dn N (rF F) i g c a d f b j h n):=Gu fun n e=>(B6 (H3 N (rF F) i g c a d f b j h) e:_)
def aY:=Cc N 232 (BH N) Xl (fun
|[.iptr a d,.int .i64 f,.pagg b c],[]=>some fun _ k=>Ec N a d f b c (rF k)
| _,_=>none) fun _ _=>by split;intro R F;exact(B6 (L7 N (rF F) · _ _ _ _ _) (Aoq fun i g j h=>(lW ..).trans (MA ..)):_).trans (Vy ..).symm;trivial
def M0(N:Nat)(a:LA)(c:Bool)(b:Int)(r0:Bool->O R):O R:=(cond ((b==0)==true) (Aj .i64 (a.drop 19) fun d=>r0 (cond true (d==2) false)) (r0 false))
def Do:=(shut (@M0 R)).1
def Qt:@Do R=@M0 R:=(shut _).2
def Ta:=Cc N 147 [] D5 (fun
|[.iptr a c,.int .i64 b],[]=>some fun _ k=>Do N a c b (Bu k)
| _,_=>none) fun _ _=>by split;intro R F;dsimp only;rw[Qt];kernel_rfl;trivial
def Sb(a:LA)(b:Bool)(r0:LA->O R):O R:=(Aj .i64 (a.drop 21) fun d=>A7 N 0 fun c=>cond ((beq c.length 3)&&(ble 3 3)) (r0 [.imm [.int .i64 d] 1 1 false false,.imm ((setCells [.bool false,.nsl,.nsl] 0 c).take 3) 1 3 false false]) none)
def E9:=(shut (@Sb R)).1
def Vz:@E9 R=@Sb R:=(shut _).2
def BI:=Cc N 148 [Cp N] G3 (fun
|[.iptr a b],[]=>some fun _ k=>E9 N a b (Dx k)
| _,_=>none) fun _ _=>by split;intro R F;dsimp only;rw[Vz];kernel_rfl;trivial
def M5(e:Int)(a:LA)(c:Bool)(d:Int)(b:LA)(r0:LA->O R):O R:=(Aj .i64 (a.drop 16) fun g=>Aj .i64 (a.drop 8) fun h=>O9 N a c d e fun i=>cond (ble 3 b.length) (A7 N (Cn g (wrap .i64 (h - e))) fun j=>Oj N (b.take 3) false j false fun l=>Pv N i false l false fun f=>cond ((beq 0 0)&&((beq f.length 3)&&(beq 3 3))) (cond (ble 3 f.length) (r0 (f.take 3)) none) none) none)
def C1:=(shut (@M5 R)).1
def Qu:@C1 R=@M5 R:=(shut _).2
def MB(a:LA)(c:Bool)(d:Int)(b:LA)(F:KF R):LA->O R:=fun m=>F (.pagg m false) [(100000,bN 0 [.iptr a c]),(100001,bN 0 [iv d]),(100002,bQ 0 b)]
def PH:=Cc N 248 [ON N,Cp N,Vm N,Z8 N] G3 (fun
|[.int .i64 e,.optr 100000 0,.optr 100001 0,.optr 100002 0],[(100000,⟨false,false,false,false,0,[.iptr a c],false,none⟩),(100001,⟨false,false,false,false,0,[.int .i64 d],false,none⟩),(100002,⟨false,false,true,false,0,b,false,none⟩)]=>some fun _ k=>C1 N e a c d b (MB a c d b k)
| _,_=>none) fun _ _=>by split;intro R F;dsimp only;rw[Qu];kernel_rfl;trivial
def OO(r0:LA->Bool->O R)(g:Nat)(f a:LA)(b:Bool)(c:Int)(d h:LA)(k2:Int->Int->Nat->Nat->LA->Bool->LA->O R)(v p:Int)(s t:Nat)(w:LA)(u:Bool)(x:LA):O R:=(cond (decide (p<v)) (cond (Ab p g) (Aj .i64 (h.drop (0+(p.toNat*1))) fun aa=>C1 N aa a b c d fun ac=>Ex N aa ac false s t w u x fun ad ae af ag ah=>k2 v (wrap .i64 (p+1)) ad ae af ag ah) none) (r0 [.imm (w.take (s*1)) s 1 false false,.imm (x.take (t*3)) t 3 false u] (u||false)))
def M6(r0:LA->Bool->O R)(g:Nat)(f a:LA)(b:Bool)(c:Int)(d h:LA):Nat->Int->Int->Nat->Nat->LA->Bool->LA->O R
|0=>fun _ _ _ _ _ _ _=>none
|n+1=>OO N r0 g f a b c d h (M6 r0 g f a b c d h n)
def OP(r0:LA->Bool->O R)(g:Nat)(f a:LA)(b:Bool)(c:Int)(d h:LA)(k1:Int->O R)(k2:Int->Int->Nat->Nat->LA->Bool->LA->O R)(y:Int):O R:=(cond (decide (0<y)) (cond (Ab 0 g) (Aj .i64 h fun ab=>C1 N ab a b c d fun ai=>F6 N ab ai false fun aj ak al=>k2 y 1 1 1 aj ak al) none) (r0 [.nsl,.nsl] false))
def M7(r0:LA->Bool->O R)(g:Nat)(f a:LA)(b:Bool)(c:Int)(d h:LA):Nat->Int->O R
|0=>fun _=>none
|n+1=>OP N r0 g f a b c d h (M7 r0 g f a b c d h n) (M6 N r0 g f a b c d h n)
def Wx(r0:LA->Bool->O R)(i j:Int)(l:Nat)(f a:LA)(b:Bool)(c:Int)(d:LA)(k0:Nat->Int->Int->LA->O R)(q1:Nat->LA->Int->O R)(m:Nat)(q o:Int)(r:LA):O R:=(cond (decide (o<q)) (cond (Ab o l) (Aj .i64 (f.drop (0+(o.toNat*1))) fun z=>cond ((decide (z>i))==true) (cond (cond true (decide (z<j)) false) (cond ((ble (m+1) 140737488355328)&&(ble ((m+1)*8) 140737488355328)) (k0 (m+1) q (wrap .i64 (o+1)) ((r.take (m*1))++[.int .i64 z])) none) (k0 m q (wrap .i64 (o+1)) r)) (k0 m q (wrap .i64 (o+1)) r)) none) (E8 N m r fun am=>C0 N m am fun g h=>q1 g h (g:Int)))
def Ji(r0:LA->Bool->O R)(i j:Int)(l:Nat)(f a:LA)(b:Bool)(c:Int)(d:LA):Nat->Nat->Int->Int->LA->O R
|0=>fun _ _ _ _=>none
|n+1=>Wx N r0 i j l f a b c d (Ji r0 i j l f a b c d n) (fun g h=>M7 N r0 g f a b c d h N)
def Yu(N:Nat)(r0:LA->Bool->O R)(q0:Nat->Int->Int->LA->O R)(i j:Int)(l:Nat)(f a:LA)(b:Bool)(c:Int)(d:LA):O R:=(q0 2 (l:Int) 0 [.int .i64 i,.int .i64 j])
def EH:=(shut fun N i j l f a b c d r0=>Yu (R:=R) N r0 (Ji N r0 i j l f a b c d N) i j l f a b c d).1
def OQ(i j l f a b c d r0):(@EH R N i j l f a b c d r0)=(Yu N r0 (Ji N r0 i j l f a b c d N) i j l f a b c d):=by rw[EH,(shut _).2]
def TI:Hints:={H:=hK 2 (hS (hK 1 (hS (hP [0,1,3,8,9,18,19,20] hL) hL)) (hK 3 (hS (hK 1 (hS (hP [3,8,12,41,42,43] hL) hL)) hL))),modes:=[(3,0)]}
def YF:Oe:=[BC N,S8 N,PH N,Fq N]
def BJ(F:KF R):=Iv Tryz.f70 TI (YF N) [100000,100001,100002,100003] N F
def Fk(f a:LA)(b:Bool)(c:Int)(d:LA)(F:KF R):LA->Bool->O R:=fun an ao=>F (.pagg an ao) [(100000,bQ 1 f),(100001,bN 0 [.iptr a b]),(100002,bN 0 [iv c]),(100003,bQ 0 d)]
def uP(g:Nat)(f a:LA)(b:Bool)(c:Int)(d h:LA)(K:St->O R):=fun v p s t w u x=>K ⟨[(3,.fn 248 [.optr 100001 0,.optr 100002 0,.optr 100003 0]),(8,op 0),(12,op 1),(41,Bbq 2 g),(42,iv v),(43,iv p)],[(100000,bQ 1 f),(100001,bN 0 [.iptr a b]),(100002,bN 0 [iv c]),(100003,bQ 0 d),(300000,bN 0 [.nsl,.nsl]),(300001,bN 0 [Bbq 3 s,Bbq 4 t]),(300002,bQ 1 h),(300003,bQ 1 w),(300004,bP u 3 x)]⟩
def uQ(g:Nat)(f a:LA)(b:Bool)(c:Int)(d h:LA)(K:St->O R):=fun y=>K ⟨[(3,.fn 248 [.optr 100001 0,.optr 100002 0,.optr 100003 0]),(8,op 0),(12,op 1),(41,Bbq 2 g),(42,iv y),(43,iv 0)],[(100000,bQ 1 f),(100001,bN 0 [.iptr a b]),(100002,bN 0 [iv c]),(100003,bQ 0 d),(300000,bN 0 [.nsl,.nsl]),(300001,bN 0 [.nsl,.nsl]),(300002,bQ 1 h)]⟩
def uS(i j:Int)(l:Nat)(f a:LA)(b:Bool)(c:Int)(d:LA)(K:St->O R):=fun m q o r=>K ⟨[(0,iv i),(1,iv j),(3,.fn 248 [.optr 100001 0,.optr 100002 0,.optr 100003 0]),(8,op 0),(9,Bbq 1 m),(18,.own 100000 0 l),(19,iv q),(20,iv o)],[(100000,bQ 1 f),(100001,bN 0 [.iptr a b]),(100002,bN 0 [iv c]),(100003,bQ 0 d),(300000,bN 0 [.nsl,.nsl]),(300001,bQ 1 r)]⟩
def f6(F:KF R)(g f a b c d h):∀ n,uP g f a b c d h (Ao (BJ N F (pz 349508) []) n)=(M6 N (Fk f a b c d F) g f a b c d h n):=Gu fun n e=>(B6 (OO N (Fk f a b c d F) g f a b c d h) e:_)
def f7(F:KF R)(g f a b c d h):∀ n,uQ g f a b c d h (Ao (BJ N F (pz 349508) []) n)=(M7 N (Fk f a b c d F) g f a b c d h n):=Gu fun n e=>(QH (OP N (Fk f a b c d F) g f a b c d h) e (f6 ..):_)
def f8(F:KF R)(i j l f a b c d):∀ n,uS i j l f a b c d (Ao (BJ N F (pz 1348) []) n)=(Ji N (Fk f a b c d F) i j l f a b c d n):=Gu fun n e=>(QH (Wx N (Fk f a b c d F) i j l f a b c d) e (rD fun g h=>(lW ..).trans (f7 ..)):_)
def wZ:=Cc N 70 (YF N) TI (fun
|[.int .i64 i,.int .i64 j,.own 100000 0 l,.fn 248 [.optr 100001 0,.optr 100002 0,.optr 100003 0]],[(100000,⟨false,false,true,false,1,f,false,none⟩),(100001,⟨false,false,false,false,0,[.iptr a b],false,none⟩),(100002,⟨false,false,false,false,0,[.int .i64 c],false,none⟩),(100003,⟨false,false,true,false,0,d,false,none⟩)]=>some fun _ k=>EH N i j l f a b c d (Fk f a b c d k)
| _,_=>none) fun _ _=>by split;rename_i i j l f a b c d;intro R F;exact(B6 (Yu N (Fk f a b c d F) · i j l f a b c d) ((lW ..).trans (f8 ..)):_).trans (OQ ..).symm;trivial
def Ug(a:LA)(b:Bool)(c:Int)(r0:LA->Bool->O R):O R:=(F3 N a b c fun f=>cond ((beq 0 0)&&((beq f.length 3)&&(beq 3 3))) (Aj .i64 (a.drop 8) fun h=>Aj .i64 (a.drop 16) fun i=>Dd 1 (a.drop 25) fun g d=>cond ((!b)||(Bb g)) (cond ((ble (1+d) 140737488355328)&&(ble ((1+d)*8) 140737488355328)) (Aj .i64 (a.drop 2) fun j=>Aj .i64 (a.drop 8) fun l=>EH N j l (1+d) ([.int .i64 (wrap .i64 (h - i))]++g) a b c f fun e m=>cond ((beq 0 0)&&((beq e.length 2)&&(beq 2 2))) (cond (ble 2 e.length) (r0 (e.take 2) m) none) none) none) none) none)
def K4:=(shut (@Ug R)).1
def Xm:@K4 R=@Ug R:=(shut _).2
def f9:=Cc N 233 [R5 N,wZ N] G3 (fun
|[.iptr a b,.int .i64 c],[]=>some fun _ k=>K4 N a b c (rF k)
| _,_=>none) fun _ _=>by split;intro R F;dsimp only;rw[Xm];kernel_rfl;trivial
end
end Gx
namespace Gx.Uo
open Go Go.Proofs
section
variable{R:Type}{N:Nat}{X:O R}
def Ayl{y:RatD}{q:Rat}(h:y.can q)(L:q≠0):(⟨y.neg,y.ds,y.ns⟩:RatD).q=q⁻¹:=by
 have T:=q.den_pos
 have hn:q.num≠0:=fun e=>L (A6h.1 e)
 have Y:=Ats q
 have hdR:(q.den:Rat)≠0:=A9x (A74.2 T)
 have e1:(⟨y.neg,y.ds,y.ns⟩:RatD).q=mkRat (if q.num<0 then -(q.den:Int)else(q.den:Int)) q.num.natAbs:=by
  show mkRat (Au y.neg y.ds) (val y.ns.l)=_
  unfold Au
  rw[h.1,h.2.1,h.2.2,Ae,Ae]
  by_cases D:q.num<0
  ·rw[decide_eq_true D,if_pos D,if_pos rfl]
  ·rw[decide_eq_false D,if_neg D,if_neg (by simp)]
 have k:(q.num.natAbs:Rat)≠0:=A9x (A74.2 (by omega))
 have e2:mkRat (if q.num<0 then -(q.den:Int)else(q.den:Int)) q.num.natAbs*q=1:=by
  rw[A7s]
  by_cases D:q.num<0
  ·rw[if_pos D]
   have e3:(q.num.natAbs:Rat)=-(q.num:Rat):=by
    have I:(q.num.natAbs:Int)=-q.num:=by omega
    have G:((q.num.natAbs:Int):Rat)=((-q.num:Int):Rat):=by rw[I]
    rw[Rat.intCast_neg]at G
    exact G
   have e4:((-(q.den:Int):Int):Rat)=-(q.den:Rat):=by rw[Rat.intCast_neg];rfl
   rw[e4]
   rw[e3]at k ⊢
   rw[A6r]
   have:=A64 _ k
   grind
  ·rw[if_neg D]
   have e3:(q.num.natAbs:Rat)=(q.num:Rat):=by
    have I:(q.num.natAbs:Int)=q.num:=by omega
    have G:((q.num.natAbs:Int):Rat)=(q.num:Rat):=by rw[I]
    exact G
   have e4:(((q.den:Int):Int):Rat)=(q.den:Rat):=rfl
   rw[e4]
   rw[e3]at k ⊢
   rw[A6r]
   have:=A64 _ k
   grind
 rw[e1]
 have:=A64 q L
 grind
def Awe{K:LA->Bool->O R}{x y:RatD}{p q:Rat}{o:Bool}(G:x.can p)(k:y.can q)(T:q≠0)(Y:fit (8*(qm p+qm q)+40) N)(h:∀ d:RatD,d.can (p/q)->K d.av true=X):Aaf N x.av o y.av false K=X:=by
 let D:RatD:=⟨y.neg,.of y.ds.l false false,.of y.ns.l false false⟩
 have I:D.m=qm q:=by rw[<-k.m];show max _ _=max _ _;exact Nat.max_comm _ _
 have L:D.q=q⁻¹:=Ayl k T
 obtain⟨d,d1,d2⟩:=kC (R:=R) (N:=N) (x:=x) (y:=D) (o:=o) (o':=(false||(false||false))) G.ok ⟨k.ok.2,k.ok.1⟩ (by rw[I,G.m];exact Y)
 rw[L,G.q,<-A6r]at d1
 have hs:(q.num.sign==0)=false:=by
  rw[beq_eq_false_iff_ne];intro e
  exact T (A6h.1 (A6s.1 e))
 rw[rj];unfold Aae
 rw[b3,ct,Y9,Io k.ok (Y.le (by rw[k.m];omega)),k.q,hs,cf,b3,ct,Y9]
 show Wg y.av _=_
 have hb:∀ f:Bool->O R,Wg y.av f=f y.neg:=fun f=>rfl
 rw[hb,kB,Aim]
 have e:([.bool y.neg,.imm (Ad y.ds.l) y.ds.l.length 1 false false,.imm (Ad y.ns.l) y.ns.l.length 1 false false]:LA)=D.av:=rfl
 rw[e,d2];exact h d d1
def Aym{a b:Int}{r0:Bool->O R}:X6 N a b r0=r0 (decide (a<b)):=by
 rw[G'];unfold FJ
 rw[Rh];unfold Rg
 rw[show(a != a)=false by simp];rfl
def Abh{xs:List Int}{c:Int}{f g:Bool}{r0:Int->Bool->O R}(hs:xs.Pairwise (·<·))(hl:xs.length<=30000000)(h1:∀ p (h:p<xs.length),xs[p]=c->r0 (p:Int) true=X)(h0:∀ p:Nat,p<=xs.length->(∀ k (h:k<xs.length),k<p->xs[k]<c)->(∀ k (h:k<xs.length),p<=k->c<xs[k])->r0 (p:Int) false=X):
  ∀(D b i:Nat),b<=i->i<=xs.length->i - b<D->(∀ k (h:k<xs.length),k<b->xs[k]<c)->(∀ k (h:k<xs.length),i<=k->c<=xs[k]) ->
   Ca N r0 (Am xs) xs.length f g c D (xs.length:Int) (b:Int) (i:Int)=X
|0,_,_,_,_,h,_,_=>by omega
| D+1,b,i,hbi,L,hfu,a1,a2=>by
  have mono:=A4h.1 hs
  rw[Ca];unfold F5
  by_cases hlt:b<i
  ·have hw:wrap .i64 (Int.fdiv (wrap .u64 (wrap .i64 ((b:Int)+(i:Int)))) (2 ^ 1))=(((b+i)/2:Nat):Int):=by
    have e1:wrap .i64 ((b:Int)+(i:Int))=((b+i:Nat):Int):=by rw[Bc _ (by omega)];omega
    have e2:wrap .u64 ((b+i:Nat):Int)=((b+i:Nat):Int):=wrap_u64 _ (by omega)
    have e3:Int.fdiv ((b+i:Nat):Int) (2 ^ 1)=(((b+i)/2:Nat):Int):=by
     rw[A8a _ (by decide)];rfl
    rw[e1,e2,e3,Bc _ (by omega)]
   have hm:(b+i)/2<xs.length:=by omega
   rw[Ox hlt,ct,hw,Aa hm,ct,Bh hm,Aym,wS (by omega)]
   by_cases I:xs[(b+i)/2]<c
   ·rw[decide_eq_true I,ct]
    refine Abh hs hl h1 h0 D ((b+i)/2+1) i (by omega) L (by omega) (fun k hk T=>?_) a2
    by_cases Y:k=(b+i)/2
    ·subst Y;exact I
    ·exact Int.lt_trans (mono k _ hk hm (by omega)) I
   ·rw[decide_eq_false I,cf]
    refine Abh hs hl h1 h0 D b ((b+i)/2) (by omega) (by omega) (by omega) a1 (fun k hk T=>?_)
    by_cases Y:k=(b+i)/2
    ·subst Y;omega
    ·have:=mono ((b+i)/2) k hm hk (by omega);omega
  ·have hbe:b=i:=by omega
   subst hbe
   rw[Rc (by omega),cf]
   by_cases G:b<xs.length
   ·rw[Ox G,show(true==true)=true from rfl,ct,Aa G,ct,Bh G]
    by_cases I:xs[b]=c
    ·rw[show((xs[b]==c)==false)=false by simp[I],cf];exact h1 b G I
    ·rw[show((xs[b]==c)==false)=true by simp[I],ct,ct,Bh G,IB]
     unfold FW
     rw[show(xs[b] != xs[b])=false by simp]
     show r0 (b:Int) false=X
     refine h0 b L a1 fun k hk T=>?_
     have:=a2 b G (A2s _)
     by_cases e:k=b
     ·subst e;omega
     ·have:=mono b k G hk (by omega);omega
   ·rw[Rc (by omega),show(false==true)=false from rfl,cf]
    exact h0 b L a1 fun k hk T=>by omega
def Az8{xs:List Int}{c:Int}{n:Nat}{f g:Bool}{r0:Int->Bool->O R}(hs:xs.Pairwise (·<·))(G:n=xs.length)(I:xs.length<=30000000)(hN:40000000<=N)(D:∀ p (h:p<xs.length),xs[p]=c->r0 (p:Int) true=X)(L:∀ p:Nat,p<=xs.length->(∀ k (h:k<xs.length),k<p->xs[k]<c)->(∀ k (h:k<xs.length),p<=k->c<xs[k])->r0 (p:Int) false=X):Dz N (Am xs) n f g c r0=X:=by
 subst G
 rw[K3];unfold E1
 exact Abh hs I D L N 0 xs.length (A9f _) (A2s _) (by omega) (fun k _ h=>by omega) (fun k D T=>by omega)
def Ayn{f:F1}{L:Hk}(c:Cv f L):(F4 L).Pairwise (·<·):=by
 rw[A4h]
 intro i j hi D k
 unfold F4 at *
 rw[A4i,A4i]
 have G:j<L.length:=by simpa using D
 have:=c.lt i (by omega)
 have:=c.mono j (i+1) k G
 omega
def Awf{a:Rat}{v:Int}(h:0<v)(k:v<=9223372036854775807):qm (a/(v:Rat))<=qm a+2:=by
 have e:((v:Int):Rat)⁻¹=mkRat 1 v.toNat:=by
  rw[A7s,A6r,show((v.toNat:Nat):Rat)=((v:Int):Rat)from congrArg (fun z:Int=>(z:Rat)) (show(v.toNat:Int)=v by omega)]
  show _=(1:Rat)*_
  rw[Rat.one_mul]
 rw[A6r,e]
 have D:=Kb a (mkRat 1 v.toNat)
 have k:=Aqw 1 v.toNat 2 (by decide) (by omega) (by omega)
 omega
def Abi{L:Hk}{V:List RatD}{j:Bool}{f:LA->Nat->O R}:Dd 1 (S9 L V j) f=f (Am (F4 L)) L.length:=rfl
def Aq9{L:Hk}{V:List RatD}{j:Bool}{f:LA->Nat->O R}:Dd 3 (drop 1 (S9 L V j)) f=f (V.flatMap RatD.av) L.length:=rfl
def Awg{V:List RatD}{j:Nat}(h:j<V.length):take 3 (drop ((Int.toNat (j:Int))*3) (V.flatMap RatD.av))=V[j].av:=by rw[P6 h];rfl
def An0{V:List RatD}{j:Nat}(h:j<V.length):ble 3 (drop ((Int.toNat (j:Int))*3) (V.flatMap RatD.av)).length=true:=by rw[P6 h];rfl
def Ai0{K:LA->Bool->O R}{f:F1}{L:Hk}{V:List RatD}{M:Nat}{x:Int}{j c:Bool}(hV:VOk V L)(hP:PB M L)(hc:Cv f L)(h0:(L[0]'(hc.ne)).1<=x)(h1:x<=(L[L.length - 1]'(by have:=hc.ne;omega)).1)(T:fit (100*M+1000) N)(hNN:40000000<=N)
  (h:∀(d:RatD)(o:Bool),d.can (f x)->K d.av o=X):Is N (S9 L V j) c x K=X:=by
 have hne:=hc.ne
 have Y:=hP.n;have hV1:=hV.1
 have xl:(F4 L).length=L.length:=A4y ..
 have xg:∀ i (hi:i<L.length),(F4 L)[i]'(by omega)=L[i].1:=fun i hi=>A4i ..
 rw[EF];unfold BE
 rw[Abi]
 refine Az8 (Ayn hc) xl.symm (by omega) hNN (fun p G hpx=>?_) (fun p G a1 a2=>?_)
 ·rw[xl]at G
  rw[xg p G]at hpx
  rw[ct,Aq9,Aa G,ct,An0 (by omega),ct,Awg (by omega),c3,ct,b3,ct,Y9]
  have:=hV.2 p (by omega) G
  rw[<-hc.val p G,hpx]at this
  exact h _ _ this
 ·rw[xl]at G
  have hp0:0<p:=by
   refine Nat.pos_of_ne_zero fun e=>?_
   have:=a2 0 (by omega) (by omega);rw[xg 0 hne]at this;omega
  have D:p<L.length:=by
   refine A7q fun e=>?_
   have:=a1 (L.length - 1) (by omega) (by omega);rw[xg _ (by omega)]at this;omega
  have q1:=hP.q _ (A24 D);have q0:=hP.q _ (A24 (show p - 1<L.length by omega))
  have b1:=hP.x _ (A24 D);have b0:=hP.x _ (A24 (show p - 1<L.length by omega))
  have l1:=a2 p (by omega) (A2s _);have l0:=a1 (p - 1) (by omega) (by omega)
  rw[xg _ (by omega)]at l1 l0
  have w1:wrap .i64 ((p:Int) - 1)=((p - 1:Nat):Int):=yP (k:=1) (by omega) (by omega)
  have wx:wrap .i64 (L[p].1 - L[p - 1].1)=L[p].1 - L[p - 1].1:=Bc _ (by omega)
  have wy:wrap .i64 (x - L[p - 1].1)=x - L[p - 1].1:=Bc _ (by omega)
  have s1:=Om L[p].2 L[p - 1].2
  have t1:=qi (v:=L[p].1 - L[p - 1].1) (by omega)
  have t2:=qi (v:=x - L[p - 1].1) (by omega)
  have I:((L[p].1 - L[p - 1].1:Int):Rat)≠0:=by
   intro e
   have e2:((L[p].1 - L[p - 1].1:Int):Rat)=((0:Int):Rat):=e
   have:=Rat.intCast_inj.1 e2;omega
  have m1:=Awf (a:=L[p].2 - L[p - 1].2) (v:=L[p].1 - L[p - 1].1) (by omega) (by omega)
  have m2:=Kb ((L[p].2 - L[p - 1].2)/((L[p].1 - L[p - 1].1:Int):Rat)) ((x - L[p - 1].1:Int):Rat)
  simp only[Aq9,Abi]
  rw[cf,Aa D,ct,An0 (by omega),ct,w1,Aa (by omega),ct,An0 (by omega),ct,Awg (by omega),Awg (by omega)]
  refine kF (hV.2 p (by omega) D) (hV.2 (p - 1) (by omega) (by omega)) (T.le (by omega)) fun a ha=>?_
  rw[c3,ct,b3,ct,ct,Bh (by omega),ct,Bh (by omega),xg _ D,xg _ (by omega),wx]
  refine D0 (by omega) (by have:=T.1;omega) fun b hb=>?_
  rw[Y9]
  refine Awe ha hb I (T.le (by omega)) fun e he=>?_
  rw[c3,ct,ct,ct,b3,ct,ct,Bh (by omega),xg _ (by omega),wy]
  refine D0 (by omega) (by have:=T.1;omega) fun b' hb'=>?_
  rw[Y9]
  refine SU he hb' (T.le (by omega)) fun g hg=>?_
  refine ST (hV.2 (p - 1) (by omega) (by omega)) hg (T.le (by omega)) fun r hr=>?_
  rw[c3,ct,b3,ct,Y9]
  refine h r _ ?_
  have e1:=hc.val p D;have e0:=hc.val (p - 1) (by omega)
  obtain⟨m,q,Y⟩:=hc.lin (p - 1) (by omega)
  have ep:p - 1+1=p:=by omega
  simp only[ep]at Y
  have k1:=cJ l1;have k0:=cJ l0
  have f1:=Y L[p].1 (by grind) A37
  have f0:=Y L[p - 1].1 A37 (by grind)
  have fx:=Y x (by grind) (by grind)
  rw[<-e1,<-e0,f1,f0]at hr
  rw[fx]
  rw[A3i]at I
  rw[A3i,A3i,show m*(L[p].1:Rat)+q - (m*L[p - 1].1+q)=m*(L[p].1 - L[p - 1].1) by grind,show m*((L[p].1:Rat) - L[p - 1].1)/(L[p].1 - L[p - 1].1)=m by rw[A6r,A9o,A64 _ I,Rat.mul_one]]at hr
  rwa [show m*(L[p - 1].1:Rat)+q+m*(x - L[p - 1].1)=m*x+q by grind]at hr
def Att{K:LA->O R}{x y:RatD}{p q:Rat}{m n:Nat}{o o':Bool}(k:x.is p m)(D:y.is q n)(I:fit (8*(m+n)+40) N)(h:∀ d:RatD,d.can (p*q)->K d.av=X):Oj N x.av o y.av o' K=X:=by
 obtain⟨d,G,e⟩:=kC (R:=R) (N:=N) (o:=o) (o':=o') k.1 D.1 (I.le (by have:=k.2.2;have:=D.2.2;omega))
 rw[e];exact h d (by rw[k.2.1,D.2.1]at G;exact G)
def Akz{w:Rat}:decide (w.num.sign>0)=decide (0<w):=by
 have:=Atn (q:=w)
 rw[decide_eq_decide]at this ⊢
 rw[<-A8d,<-this];omega
def Dg(a b:Int):Cn a b=Lt a b:=by
 unfold Cn Lt
 by_cases h:b<a
 ·rw[decide_eq_true h,if_neg (by omega)];rfl
 ·rw[decide_eq_false h,if_pos (by omega)];rfl
def Fr(a b:Int):Fc a b=NL a b:=by
 unfold Fc NL
 by_cases h:b>a
 ·rw[decide_eq_true h,if_pos (by omega)];rfl
 ·rw[decide_eq_false h]
  by_cases k:a<=b
  ·rw[if_pos k];show a=b;omega
  ·rw[if_neg k];rfl
end
end Gx.Uo
namespace Gx.Uo
open Go Go.Proofs
section
variable{R:Type}{N:Nat}{X:O R}
def Atu{K:LA->Bool->LA->O R}{x:Int}{d:RatD}{v:Rat}(k:d.can v)(h:K (Am [x]) false ([d].flatMap RatD.av)=X):F6 N x d.av false K=X:=by
 rw[Xk];unfold N9 Kg
 exact h
def Ara{f:F1}{xs:List Int}{k:Nat}(h:k<xs.length):bL f (xs.take (k+1))=JB (bL f (xs.take k)) xs[k] (f xs[k]):=by unfold bL;rw[A39 h,A8f];rfl
def A1c{l:List Int}{r:LA}{j:Nat}(h:j<l.length){f:Int->O R}:Aj .i64 (drop (0+((Int.toNat (j:Int))*1)) (Am l++r)) f=f l[j]:=by
 rw[A22,A2u,A3g,List.drop_append_of_le_length (by rw[K2];omega)]
 unfold Am
 rw[<-List.map_drop,Fg h];rfl
section
variable{r0:LA->Bool->O R}{F:F1}{M:Nat}{p q:Int}{l a':LA}{a c g:Bool}{b d f h:LA}{i j:Int}
def PI(p q t:Int):Bool:=decide (p<t)&&decide (t<q)
def Arb{lo hi:Int}{cs:List Int}:(VN lo hi cs).length<=(hi - lo+1).toNat:=by
 unfold VN
 exact A4f (A85 _ _) (by simp)
end
end
end Gx.Uo
namespace Gx.Uo
open Go Go.Proofs
section
variable{R:Type}{N:Nat}{X:O R}
def Abj{p q:Rat}:decide (HR p q>0)=decide (q<p):=by
 rw[decide_eq_decide];unfold HR
 by_cases h:p<q
 ·rw[if_pos h];simp;grind
 ·rw[if_neg h];split
  ·simp;grind
  ·simp;grind
def kO{K:Int->O R}{L:Hk}{V:List RatD}{M S:Nat}{s:RatD}{sq:Rat}{o o' j:Bool}(hs:s.can sq)(Y:qm sq<=S)(hV:VOk V L)(hP:PB M L)(T:fit (200*(M+S)+1000) N):∀(n k D m:Nat)(b:RatD)(bv:Rat)(hm:m<L.length),k+n=L.length->n<D->1<=k->b.can bv->qm bv<=M+S+8 ->
  Gs N K (Am (F4 L)) L.length o (S9 L V j) o' s.av D (m:Int) (L.length:Int) (k:Int) b.av=K (pk sq (L.drop k) L[m].1 bv)
|0,k,D+1,m,b,bv,hm,hk,_,_,hb,hq=>by
  have hl:=hP.n;have hV1:=hV.1
  have xl:(F4 L).length=L.length:=A4y ..
  rw[Gs];unfold L0
  rw[Rc (by omega),cf,Abi,Aa hm,ct,Bh (by omega),Jx (by omega),pk]
  exact congrArg K (A4i ..)
| n+1,k,D+1,m,b,bv,hm,hk,hfu,hk1,hb,hq=>by
  have hl:=hP.n;have hV1:=hV.1
  have xl:(F4 L).length=L.length:=A4y ..
  have xg:∀ i (hi:i<L.length),(F4 L)[i]'(by omega)=L[i].1:=fun i hi=>A4i ..
  rw[Gs];unfold L0
  have G:k<L.length:=by omega
  have bx:=hP.x _ (A24 G);have bq:=hP.q _ (A24 G)
  have ix:=qi (v:=L[k].1) (by omega)
  have m1:=Kb sq (L[k].1:Rat)
  have m2:=Fz L[k].2 (sq*(L[k].1:Rat))
  rw[Ox G,ct,Aa G,ct,Bh (by omega),Aq9,Aa G,ct,An0 (by omega),ct,b3,ct,xg _ G]
  refine D0 (by omega) (by have:=T.1;omega) fun a ha=>?_
  rw[Y9]
  refine SU hs ha (T.le (by omega)) fun c hc=>?_
  rw[Awg (by omega)]
  refine ST (hV.2 k (by omega) G) hc (T.le (by omega)) fun d hd=>?_
  rw[c3,ct,show(((k:Int)==0)==false)=true by simp;omega,ct,b3,ct,b3,ct,Y9,Y9,Atp (hd.is (m:=M+S+8) (by omega)) (hb.is (m:=M+S+8) (by omega)) (T.le (by omega)),show(cond false true (decide (HR (L[k].2+sq*(L[k].1:Rat)) bv>0)))=decide (bv<L[k].2+sq*(L[k].1:Rat))from Abj,Fg G,wS (by omega)]
  rw[show ∀(x:Int)(v:Rat)(r:Hk)(b0:Int)(mm:Rat),pk sq ((x,v)::r) b0 mm=if mm<v+sq*x then pk sq r x (v+sq*x)else pk sq r b0 mm from fun _ _ _ _ _=>rfl]
  by_cases I:bv<L[k].2+sq*(L[k].1:Rat)
  ·rw[decide_eq_true I,ct,ct,Axp,ct,if_pos I,Ant]
   exact kO hs Y hV hP T n (k+1) D k d _ G (by omega) (by omega) (by omega) hd (by omega)
  ·rw[decide_eq_false I,cf,if_neg I]
   exact kO hs Y hV hP T n (k+1) D m b bv hm (by omega) (by omega) (by omega) hb hq
def Ai1{K:Int->O R}{L:Hk}{V:List RatD}{M S:Nat}{s:RatD}{sq:Rat}{o o' j:Bool}(D:0<L.length)(hs:s.can sq)(G:qm sq<=S)(hV:VOk V L)(hP:PB M L)(I:fit (200*(M+S)+1000) N)(hNN:40000000<=N):Ir N (S9 L V j) o s.av o' K=K (E2 sq L):=by
 rw[ED];unfold R7
 have hl:=hP.n;have hV1:=hV.1
 have xl:(F4 L).length=L.length:=A4y ..
 obtain⟨n,rfl⟩:∃ k,N=k+1:=⟨N - 1,by omega⟩
 have bx:=hP.x _ (A24 D);have bq:=hP.q _ (A24 D)
 have ix:=qi (v:=L[0].1) (by omega)
 have m1:=Kb sq (L[0].1:Rat)
 have m2:=Fz L[0].2 (sq*(L[0].1:Rat))
 rw[Abi]
 show Gt (n+1) K (Am (F4 L)) L.length o (S9 L V j) o' s.av (n+1) (L.length:Int)=_
 rw[Gt];unfold R6
 rw[show decide ((0:Int)<(L.length:Int))=true by simp;omega,ct,show Ab 0 L.length=true from Aa (i:=0) D,ct,show ∀ K:Int->O R,Aj .i64 (Am (F4 L)) K=K ((F4 L)[0]'(by omega))from fun K=>Ayk (j:=0) (by omega),Aq9,show Ab 0 L.length=true from Aa (i:=0) D,ct,show ble 3 (V.flatMap RatD.av).length=true by rw[nQ,A3p];omega,ct,b3,ct,show(F4 L)[0]'(by omega)=L[0].1 from A4i ..]
 refine D0 (by omega) (by omega) fun a T=>?_
 rw[Y9]
 refine SU hs T (I.le (by omega)) fun c hc=>?_
 rw[show take 3 (V.flatMap RatD.av)=(V[0]'(by omega)).av from Awg (j:=0) (by omega)]
 refine ST (hV.2 0 (by omega) D) hc (I.le (by omega)) fun d Y=>?_
 rw[c3,ct,b3,ct,Y9,c3,ct]
 have:=kO (K:=K) (o:=o) (o':=o') (j:=j) hs G hV hP I (L.length - 1) 1 n 0 d _ D (by omega) (by omega) (by omega) Y (by omega)
 have e:E2 sq L=pk sq (L.drop 1) L[0].1 (L[0].2+sq*(L[0].1:Rat)):=by
  match L,D with
  |(x,v)::r,_=>rfl
 rw[e]
 exact this
def cU(u:UnitD):F1:=Abe u.min u.segs.l
def Abk:∀(l:List SegD)(x:Int)(v:Rat)(L:Hk),(Anw l x v L).length<=L.length+l.length
|[],_,_,L=>A2s _
|s::r,x,v,L=>by
  rw[Anw]
  have:=Abk r (x+s.width) (v - s.width*s.price) (JB L (x+s.width) (v - s.width*s.price))
  have:=fW L (x+s.width) (v - s.width*s.price)
  rw[A3a];omega
end
end Gx.Uo
namespace Gx
open Go Go.Proofs
section
variable{R:Type}
structure StD where
 k:Int
 h:Int
def StD.av(s:StD):LA:=[.int .i64 s.k,.int .i64 s.h]
def A5(u:UnitD):Int:=Fc (Fc u.downTime (u.hotHours+1)) 1
def H4(u:UnitD):Int:=Fc u.upTime 1
def Bl(u:UnitD)(s:StD):List StD :=
 cond (s.k==0) (⟨0,Cn (s.h+1) (A5 u)⟩::cond (decide (s.h<u.downTime)) [] (cond (decide (u.startTime>0)) [⟨1,1⟩] [⟨2,1⟩]))
  (cond (s.k==1) (cond (decide (s.h<u.startTime)) [⟨1,s.h+1⟩] [⟨2,1⟩]) (cond (decide (s.h>=u.upTime)) [⟨0,1⟩,⟨2,Cn (s.h+1) (H4 u)⟩] [⟨2,Cn (s.h+1) (H4 u)⟩]))
def C4(u:UnitD)(s:StD):Prop:=1<=s.h/\((s.k=0/\s.h<=A5 u)\/(s.k=1/\s.h<=u.startTime)\/(s.k=2/\s.h<=H4 u))
def Dg(a b:Int):Cn a b=min a b:=by unfold Cn;by_cases h:b<a<;>simp[h]<;>omega
def Fr(a b:Int):Fc a b=max a b:=by unfold Fc;by_cases h:b>a<;>simp[h]<;>omega
def Fs{u:UnitD}(h:Bg u=true):(0<=u.upTime/\u.upTime<=24)/\(0<=u.downTime/\u.downTime<=24)/\(0<=u.startTime/\u.startTime<=24)/\(0<=u.hotHours/\u.hotHours<=24)/\(u.state=0\/u.state=1\/u.state=2)/\(1<=u.hours/\u.hours<=48)/\(u.state=1->u.hours<=u.startTime):=by simp[Bg,Im]at h;omega
def On{u:UnitD}(h:Bg u=true):1<=A5 u/\A5 u<=25/\1<=H4 u/\H4 u<=24:=by
 have:=Fs h
 simp only[A5,H4,Fr];omega
def aZ{u:UnitD}{s:StD}(h:Bg u=true)(hs:C4 u s):1<=s.h/\s.h<=25/\(s.k=0\/s.k=1\/s.k=2):=by have:=Fs h;have:=On h;unfold C4 at hs;omega
def BK{u:UnitD}{s:StD}(h:Bg u=true)(hs:C4 u s):∀ t∈Bl u s,C4 u t:=by
 intro t k
 have T:=Fs h;have Y:=On h;have I:=aZ h hs
 have L:H4 u=max u.upTime 1:=by rw[H4,Fr]
 unfold C4 at hs ⊢
 unfold Bl at k
 rcases I.2.2 with G|G|G<;>simp only[G,Dg]at k hs
 ·by_cases D:s.h<u.downTime<;>by_cases hq:u.startTime>0<;>simp[D,hq]at k<;>first|(subst k;simp;omega)|(rcases k with rfl|rfl<;>simp<;>omega)
 ·by_cases D:s.h<u.startTime<;>simp[D]at k<;>(subst k;simp;omega)
 ·by_cases D:u.upTime<=s.h<;>simp[D]at k<;>first|(subst k;simp;omega)|(rcases k with rfl|rfl<;>simp<;>omega)
def Zb{u:UnitD}{s:StD}:(Bl u s).length<=2:=by
 unfold Bl
 cases (s.k==0)<;>cases (s.k==1)<;>cases decide (s.h<u.downTime)<;>cases decide (u.startTime>0)<;>cases decide (s.h<u.startTime)<;>cases decide (s.h>=u.upTime)<;>simp
def V0{s:StD}{f:Int->O R}:Aj .i64 s.av f=f s.k:=Aw
def Sc{s:StD}{f:Int->O R}:Aj .i64 (drop 1 s.av) f=f s.h:=Aw
def IJ(s:StD):ble 2 (List.length s.av)=true:=rfl
def gR(s:StD):take 2 s.av=s.av:=rfl
def Ak0(s t:StD):setCells s.av 0 t.av=t.av:=rfl
def Asx(t:StD):setCells [Bbr,Bbr] 0 t.av=t.av:=rfl
def Sd{N:Nat}{u:UnitD}{o:Bool}{K:Int->Int->O R}(hN:64<=N)(hs:Bg u=true):KG N u.av o K=K (A5 u) (H4 u):=by
 rw[mN];unfold sK
 have k:=Fs hs
 rw[Ef,ct,Cj,Li hN,hs,show(!true)=false from rfl,cf,As7,Auo,Aun,i64 (by omega)];rfl
def FX{N:Nat}{u:UnitD}{o:Bool}{K:Int->Int->O R}(hs:Bg u=true):HL N u.av o K=K (A5 u) (H4 u):=by
 rw[dX];unfold jN
 have k:=Fs hs
 rw[Ef,ct,Cj,Mr,hs,show(!true)=false from rfl,cf,As7,Auo,Aun,i64 (by omega)];rfl
def Ar(u:UnitD):StD:=⟨u.state,cond (u.state==0) (Cn u.hours (A5 u)) (cond (u.state==2) (Cn u.hours (H4 u)) u.hours)⟩
def Oa{u:UnitD}(h:Bg u=true):C4 u (Ar u):=by
 have D:=Fs h;have G:=On h
 unfold C4 Ar
 rcases D.2.2.2.2.1 with k|k|k<;>simp only[k,Dg]<;>simp<;>omega
def pE{N:Nat}{u:UnitD}{o:Bool}{K:LA->O R}(hN:64<=N)(hs:Bg u=true):KJ N u.av o K=K (Ar u).av:=by
 rw[RN];unfold RM
 rw[Ef,ct,Cj,Li hN,hs,show(!true)=false from rfl,cf,ct,Sd hN hs,Am5,Axm]
 unfold Ar
 cases (u.state==0)<;>cases (u.state==2)<;>rfl
def Uh{N:Nat}{u:UnitD}{o:Bool}{K:LA->O R}(hs:Bg u=true):Mo N u.av o K=K (Ar u).av:=by
 rw[NV];unfold KP
 rw[Ef,ct,Cj,Mr,hs,show(!true)=false from rfl,cf,ct,FX hs,Am5]
 have D:=Fs hs
 simp only[Axm]
 unfold Ar
 rcases D.2.2.2.2.1 with k|k|k<;>rw[k]<;>rfl
def kP{N:Nat}{u:UnitD}{s:StD}{o o':Bool}(hN:64<=N)(hs:Bg u=true)(D:C4 u s):∃ p:Int,0<=p/\∀ K:Int->O R,Hy N u.av o s.av o' K=K p:=by
 have T:=Fs hs;have Y:=On hs;have I:=aZ hs D
 have key:∀ K:Int->O R,Hy N u.av o s.av o' K=K (cond (s.k==0) (s.h - 1) (cond (s.k==1) (A5 u+s.h - 1) (A5 u+u.startTime+s.h - 1))):=by
  intro K
  rw[Wp];unfold Rp
  rw[Ef,ct,Cj,Li hN,hs,show((!true)==false)=true from rfl,ct,Sc,show decide (s.h<1)=false by simp;omega,Axj,cf]
  unfold Mn Pf
  rw[Ef,ct,Cj,Sd hN hs,V0]
  unfold Ro Pe Rm
  simp only[V0,Sc,Am4]
  unfold C4 at D
  have e1:wrap .i64 (s.h - 1)=s.h - 1:=i64 (by omega)
  have L:wrap .i64 (wrap .i64 (A5 u+s.h) - 1)=A5 u+s.h - 1:=by rw[i64 (a:=A5 u+s.h) (by omega),i64 (by omega)]
  have e3:wrap .i64 (wrap .i64 (wrap .i64 (A5 u+u.startTime)+s.h) - 1)=A5 u+u.startTime+s.h - 1:=by rw[i64 (a:=A5 u+u.startTime) (by omega),i64 (a:=A5 u+u.startTime+s.h) (by omega),i64 (by omega)]
  rw[e1,L,e3]
  rcases I.2.2 with G|G|G<;>rw[G]at D ⊢
  ·rw[show decide (s.h<=A5 u)=true by simp;omega];rfl
  ·rw[show decide (s.h<=u.startTime)=true by simp;omega];rfl
  ·rw[show decide (s.h<=H4 u)=true by simp;omega];rfl
 refine⟨_,?_,key⟩
 cases (s.k==0)<;>cases (s.k==1)<;>simp<;>omega
def MC{N:Nat}{u:UnitD}{s:StD}{o:Bool}{K:LA->Nat->O R}(hN:64<=N)(hs:Bg u=true)(D:C4 u s):LW N u.av o s.av false K=K ((Bl u s).flatMap StD.av) (Bl u s).length:=by
 have T:=Fs hs;have Y:=On hs;have L:=aZ hs D
 obtain⟨p,hp,e⟩:=kP (R:=R) (o:=o) (o':=false) hN hs D
 rw[nP];unfold fT
 rw[Ef,ct,IJ,ct,show((!false)||Bb (take 2 s.av))=true from rfl,ct,Cj,gR,e,show decide (p<0)=false by simp;omega,cf,ct,Sd hN hs]
 simp only[V0,Sc,Aun,As7,Am4]
 unfold LV
 simp only[Sc,As7]
 rw[i64 (a:=s.h+1) (by omega)]
 unfold Bl
 rcases L.2.2 with G|G|G<;>rw[G]
 ·by_cases k:s.h<u.downTime
  ·simp[k,show ¬ u.downTime<=s.h by omega,StD.av]
  ·by_cases I:u.startTime>0
   ·simp[k,show u.downTime<=s.h by omega,I,StD.av]
   ·simp[k,show u.downTime<=s.h by omega,I,StD.av]
 ·by_cases k:s.h<u.startTime<;>simp[k,StD.av]
 ·by_cases k:s.h>=u.upTime<;>simp[k,StD.av]
def Atv(s:List StD):(s.flatMap StD.av).length=s.length*2:=by
 induction s with
|nil=>rfl
|cons a r k=>rw[A3r,A3d,k];simp[StD.av];omega
def Ak1(s:List StD):take (s.length*2) (s.flatMap StD.av)=s.flatMap StD.av:=by rw[<-Atv,A3l]
def TJ(s:List StD)(t:StD):take (s.length*2) (s.flatMap StD.av)++t.av=(s++[t]).flatMap StD.av:=by rw[Ak1];simp
def Afo{l:List StD}{j:Nat}(h:j<l.length):drop ((Int.toNat (j:Int))*2) (l.flatMap StD.av)=l[j].av++(l.drop (j+1)).flatMap StD.av:=by rw[A2u,Y4 (e:=StD.av) (sz:=2) (fun _=>rfl) _ _ h]
def kQ{l:List StD}{j:Nat}(h:j<l.length):drop (0+((Int.toNat (j:Int))*2)) (l.flatMap StD.av)=l[j].av++(l.drop (j+1)).flatMap StD.av:=by rw[A22,Afo h]
def MD(s:StD)(r:LA):ble 2 (List.length (s.av++r))=true:=rfl
def ME(s:StD)(r:LA):take 2 (s.av++r)=s.av:=rfl
def Abl{s:StD}{r:LA}{f:Int->O R}:Aj .i64 (s.av++r) f=f s.k:=Aw
def ID(c:Bool)(s:StD):((!c)||Bb s.av)=true:=by cases c<;>rfl
def Abm(s t:StD):((ble 1 2)&&((beq (List.length s.av) 2)&&((beq (List.length t.av) 2)&&(true&&(!false)))))=true:=rfl
def yQ(s t:StD):((s.k==t.k)&&((s.h==t.h)&&true))=true↔s=t:=by cases s;cases t;simp
def Gh(k:Int):Int->Nat->List StD
|_,0=>[]
|i,m+1=>⟨k,i+1⟩::Gh k (i+1) m
def pg{k h:Int}:∀{m:Nat}{i:Int},i+1<=h->h<=i+m->(⟨k,h⟩:StD)∈Gh k i m
|0,i,D,G=>by omega
|m+1,i,D,G=>by
  rw[Gh]
  by_cases e:h=i+1
  ·subst e;exact A5v ..
  ·exact A4w _ (pg (by omega) (by omega))
def EI{k:Int}:∀{m:Nat}{i:Int},(Gh k i m).length=m
|0,_=>rfl
|m+1,_=>by rw[Gh,A3a,EI]
def yR{N:Nat}{K:Nat->LA->O R}{a:Int}(D:a<=1000):∀(m k:Nat)(i:Int)(l:List StD),i+m=a->0<=i->m<k->l.length+m<=10000 ->
  Lg N K a k l.length (i+1) (l.flatMap StD.av)=K (l++Gh 2 i m).length ((l++Gh 2 i m).flatMap StD.av)
|0,k+1,i,l,hi,G,_,I=>by
  rw[Lg];unfold Rt
  rw[show decide (i+1<=a)=false by simp;omega,cf,Gh,A4x]
|m+1,k+1,i,l,hi,G,L,I=>by
  rw[Lg];unfold Rt
  rw[show decide (i+1<=a)=true by simp;omega,ct,Atb (by omega),ct,i64 (by omega),show [AV.int .i64 2,.int .i64 (i+1)]=(StD.mk 2 (i+1)).av from rfl,TJ]
  have:=yR (N:=N) (K:=K) D m k (i+1) (l++[⟨2,i+1⟩]) (by omega) (by omega) (by omega) (by simp;omega)
  rw[A3d]at this
  simp only[A3a,A5f,A22]at this
  rw[this,Gh,A38];rfl
def yS{N:Nat}{K:Nat->LA->O R}{u:UnitD}{c:Bool}{a:Int}{m2:Nat}(G:a=m2)(I:m2<=1000)(hN:1100<=N)(D:u.startTime<=1000):∀(m k:Nat)(i:Int)(l:List StD),i+m=u.startTime->0<=i->m<k->l.length+m<=8000 ->
  Lh N K a c u.av k l.length (i+1) (l.flatMap StD.av)=K (l++Gh 1 i m++Gh 2 0 m2).length ((l++Gh 1 i m++Gh 2 0 m2).flatMap StD.av)
|0,k+1,i,l,hi,L,_,T=>by
  rw[Lh];unfold Ru
  rw[Am4,show decide (i+1<=u.startTime)=false by simp;omega,cf,Gh,A4x]
  exact yR (by omega) m2 N 0 l (by omega) (by omega) (by omega) (by omega)
|m+1,k+1,i,l,hi,L,Y,T=>by
  rw[Lh];unfold Ru
  rw[Am4,show decide (i+1<=u.startTime)=true by simp;omega,ct,Atb (by omega),ct,i64 (by omega),show [AV.int .i64 1,.int .i64 (i+1)]=(StD.mk 1 (i+1)).av from rfl,TJ]
  have:=yS (N:=N) (K:=K) (c:=c) G I hN D m k (i+1) (l++[⟨1,i+1⟩]) (by omega) (by omega) (by omega) (by simp;omega)
  rw[A3d]at this
  simp only[A3a,A5f,A22]at this
  rw[this,Gh];simp only[A38,A4e,A5z]
def yT{N:Nat}{K:Nat->LA->O R}{u:UnitD}{c:Bool}{a p:Int}{m1 m2:Nat}(G:a=m2)(I:m2<=1000)(L:u.startTime=m1)(D:m1<=1000)(hN:1100<=N)(T:p<=1000):∀(m k:Nat)(i:Int)(l:List StD),i+m=p->0<=i->m<k->l.length+m<=6000 ->
  Il N K p a c u.av k l.length (i+1) (l.flatMap StD.av)=K (l++Gh 0 i m++Gh 1 0 m1++Gh 2 0 m2).length ((l++Gh 0 i m++Gh 1 0 m1++Gh 2 0 m2).flatMap StD.av)
|0,k+1,i,l,hi,Y,_,hl=>by
  rw[Il];unfold Rv
  rw[show decide (i+1<=p)=false by simp;omega,cf,Gh,A4x]
  exact yS G I hN (by omega) m1 N 0 l (by omega) (by omega) (by omega) (by omega)
|m+1,k+1,i,l,hi,Y,hf,hl=>by
  rw[Il];unfold Rv
  rw[show decide (i+1<=p)=true by simp;omega,ct,Atb (by omega),ct,i64 (by omega),show [AV.int .i64 0,.int .i64 (i+1)]=(StD.mk 0 (i+1)).av from rfl,TJ]
  have:=yT (N:=N) (K:=K) (c:=c) G I L D hN T m k (i+1) (l++[⟨0,i+1⟩]) (by omega) (by omega) (by omega) (by simp;omega)
  rw[A3d]at this
  simp only[A3a,A5f,A22]at this
  rw[this,Gh];simp only[A38,A4e,A5z]
def Be(u:UnitD):List StD:=Gh 0 0 (A5 u).toNat++Gh 1 0 u.startTime.toNat++Gh 2 0 (H4 u).toNat
def pF{N:Nat}{u:UnitD}{o:Bool}{K:Nat->LA->O R}(hN:1100<=N)(hs:Bg u=true):AH N u.av o K=K (Be u).length ((Be u).flatMap StD.av):=by
 have k:=Fs hs;have D:=On hs
 rw[RR];unfold DG
 rw[Ef,ct,Cj,FX hs,ct,Mr,hs,show(!true)=false from rfl,cf]
 have:=yT (N:=N) (K:=K) (u:=u) (c:=o) (a:=H4 u) (p:=A5 u) (m1:=u.startTime.toNat) (m2:=(H4 u).toNat) (by omega) (by omega) (by omega) (by omega) hN (by omega) (A5 u).toNat N 0 [] (by omega) (by omega) (by omega) (by simp;omega)
 simpa[Be]using this
def uT{u:UnitD}{s:StD}(hs:Bg u=true)(h:C4 u s):s∈Be u:=by
 have G:=Fs hs;have I:=On hs
 obtain⟨k,h'⟩:=s
 unfold C4 at h;simp only at h
 unfold Be
 rcases h with⟨L,⟨rfl,D⟩|⟨rfl,D⟩|⟨rfl,D⟩⟩
 ·exact A7u _ (A7u _ (pg (by omega) (by omega)))
 ·exact A7u _ (A87 _ (pg (by omega) (by omega)))
 ·exact A87 _ (pg (by omega) (by omega))
def Afp{N:Nat}{L:List StD}{s:StD}{c:Bool}(hL:L.length<=10000):∀(m j D:Nat),j+m=L.length->m<D->s∈L.drop j->∃ p:Int,0<=p/\∀ K:Int->O R,Fy N K L.length c s.av (L.flatMap StD.av) D (j:Int)=K p
|0,j,D+1,T,_,G=>by rw[Jx (by omega)]at G;simp at G
| m+1,j,D+1,T,hf,G=>by
  have h:j<L.length:=by omega
  by_cases e:L[j]=s
  ·refine⟨j,by omega,fun K=>?_⟩
   rw[Fy];unfold Nx
   simp only[Ox h,ct,Aa h,kQ h,MD,ME,IJ,gR,ID,Abm,V0,Sc]
   rw[(yQ _ _).2 e,ct]
  ·rw[Fg h]at G
   have I:s∈L.drop (j+1):=by
    rcases A28.1 G with rfl|G
    ·exact absurd rfl e
    ·exact G
   obtain⟨p,Y,ih⟩:=Afp hL m (j+1) D (by omega) (by omega) I
   refine⟨p,Y,fun K=>?_⟩
   rw[Fy];unfold Nx
   simp only[Ox h,ct,Aa h,kQ h,MD,ME,IJ,gR,ID,Abm,V0,Sc]
   have:((L[j].k==s.k)&&((L[j].h==s.h)&&true))=false:=by
    cases hb:((L[j].k==s.k)&&((L[j].h==s.h)&&true))with
    |false=>rfl
    |true=>exact absurd ((yQ _ _).1 hb) e
   rw[this,cf,wS (by omega),ih]
def Afq{N:Nat}{u:UnitD}{s:StD}{o d:Bool}{K:Bool->O R}(hN:1100<=N)(hs:Bg u=true)(k:C4 u s):Aax N u.av o s.av d K=K true:=by
 have D:=Fs hs;have G:=On hs
 rw[sU];unfold Aaw
 rw[Ef,ct,IJ,ct,gR,ID,ct,Cj,HM];unfold U7
 rw[Ef,ct,Cj,pF hN hs]
 have I:(Be u).length<=100:=by unfold Be;simp[EI];omega
 obtain⟨p,T,e⟩:=Afp (R:=R) (N:=N) (L:=Be u) (s:=s) (c:=false) (by omega) (Be u).length 0 N (by omega) (by omega) (by rw[A3m];exact uT hs k)
 have e':=e fun f=>K (decide (f>=0))
 rw[show((0:Nat):Int)=0 from rfl]at e'
 dsimp only
 rw[e',show decide (p>=0)=true by simp;omega]
def YG{N:Nat}{u:UnitD}{s:StD}{o d:Bool}{K:Nat->LA->O R}(hN:1100<=N)(hs:Bg u=true)(D:C4 u s):RT N u.av o s.av d K=K (Bl u s).length ((Bl u s).flatMap StD.av):=by
 have T:=Fs hs;have Y:=On hs;have L:=aZ hs D
 rw[d7];unfold jR
 rw[Ef,ct,IJ,ct,gR,ID,ct,Cj,Afq hN hs D,show(!true)=false from rfl,cf,ct,FX hs]
 simp only[V0,Sc,Aun,As7,Am4]
 rw[i64 (a:=s.h+1) (by omega)]
 unfold Bl
 rcases L.2.2 with G|G|G<;>rw[G]
 ·by_cases k:s.h<u.downTime
  ·simp[k,StD.av]
  ·by_cases I:u.startTime>0
   ·simp[k,I,StD.av]
   ·simp[k,I,StD.av]
 ·by_cases k:s.h<u.startTime<;>simp[k,StD.av]
 ·by_cases k:s.h>=u.upTime<;>simp[k,StD.av]
def MF(u:UnitD)(h kind:Int):Bool:=kind==0||!(decide (h∈u.away.l))
def Jj(l:List StD)(v:Int):Option StD:=l.find? fun s=>s.k==v
def Og(u:UnitD)(h:Int)(s:StD)(kind:Int):Option StD:=cond (MF u h kind) (Jj (Bl u s) kind) none
def Cb(u:UnitD):Int->StD->List Int->List StD×Bool
|_,_,[]=>([],true)
|h,s,k::r=>match Og u h s k with
  |none=>([],false)
  |some t=>(t::(Cb u (h+1) t r).1,(Cb u (h+1) t r).2)
def VK{l:List StD}{v:Int}{t:StD}(h:Jj l v=some t):t∈l/\t.k=v:=by
 unfold Jj at h
 exact⟨List.mem_of_find?_eq_some h,by simpa using List.find?_some h⟩
def Arc{u:UnitD}{h kind:Int}{s t:StD}(k:MF u h kind=true)(D:Jj (Bl u s) kind=some t):Og u h s kind=some t:=by unfold Og;rw[k,D];rfl
def BL{u:UnitD}{h kind:Int}{s t:StD}(hs:Bg u=true)(D:C4 u s)(e:Og u h s kind=some t):C4 u t/\t.k=kind/\t∈Bl u s/\MF u h kind=true:=by
 unfold Og at e
 cases G:MF u h kind with
|false=>rw[G]at e;cases e
|true =>
  rw[G]at e
  have:=VK (l:=Bl u s) e
  exact⟨BK hs D t this.1,this.2,this.1,rfl⟩
def Ayo(s:StD):((beq (List.length s.av) 2)&&(ble 2 2))=true:=rfl
def YH(s:StD):((beq (List.length s.av) 2)&&((ble 2 2)&&(!false)))=true:=rfl
def Afr{N:Nat}{K:Bool->O R}{l:List Int}{d e:Bool}{c:Int}(D:l.length<=1000000000000):∀(m j k:Nat),j+m=l.length->m<k->T5 N K (Am l) l.length d e c k (j:Int)=K (decide (c∈l.drop j))
|0,j,k+1,G,_=>by
  rw[T5];unfold KS
  rw[Rc (by omega),cf,Jx (by omega)];rfl
| m+1,j,k+1,G,I=>by
  rw[T5];unfold KS
  have h:j<l.length:=by omega
  rw[Ox h,ct,Aa h,ct,Bh h,wS (by omega),Afr D m (j+1) k (by omega) (by omega),Fg h]
  by_cases e:l[j]=c
  ·rw[show(l[j]==c)=true by simpa using e,ct];congr 1;simp[e]
  ·rw[show(l[j]==c)=false by simpa using e,cf];congr 1;rw[decide_eq_decide,A28]
   constructor
   ·exact .inr
   ·rintro(h|h)
    ·exact absurd h.symm e
    ·exact h
def Atw{N:Nat}{K:Bool->O R}{l:List Int}{n:Nat}{d e:Bool}{c:Int}(k:n=l.length)(D:l.length<=1000)(hN:1100<=N):jS N (Am l) n d e c K=K (decide (c∈l)):=by
 subst k
 rw[sW];unfold pU
 exact Afr (by omega) l.length 0 N (by omega) (by omega)
def Abn{N:Nat}{K:Bool->O R}{u:UnitD}{o:Bool}{h k:Int}(D:u.away.l.length<=1000)(hN:1100<=N)(G:k=0\/k=1\/k=2):DH N u.av o h k K=K (MF u h k):=by
 rw[NY];unfold KT
 simp only[Ass,Atw rfl D hN]
 unfold MF
 rcases G with rfl|rfl|rfl
 ·rfl
 ·rw[show(((1:Int)==0)==false)=true from rfl,ct,show(((1:Int)==1)==false)=false from rfl,cf];rfl
 ·rfl
def Abo{u:UnitD}{s:StD}{t:StD}(hs:Bg u=true)(D:C4 u s)(h:t∈Bl u s):t.k=0\/t.k=1\/t.k=2:=(aZ hs (BK hs D t h)).2.2
def kR{N:Nat}{X:O R}{K:LA->Bool->O R}{u:UnitD}{L:List StD}{o:Bool}{h k:Int}(Y:u.away.l.length<=1000)(hN:1100<=N)(hL:L.length<=1000)(hk:∀ t∈L,t.k=0\/t.k=1\/t.k=2):∀(m j D:Nat),j+m=L.length->m<D ->
  (cond (MF u h k) (Jj (L.drop j) k) none=none->K [Bbr,Bbr] false=X)->(∀ t,cond (MF u h k) (Jj (L.drop j) k) none=some t->K t.av true=X) ->
  Mp N K h k L.length o u.av (L.flatMap StD.av) D (j:Int)=X
|0,j,D+1,hj,_,I,_=>by
  rw[Mp];unfold Yd
  rw[Rc (by omega),cf]
  exact I (by rw[Jx (by omega)];cases MF u h k<;>rfl)
| m+1,j,D+1,hj,hf,I,T=>by
  rw[Mp];unfold Yd
  have G:j<L.length:=by omega
  rw[Ox G,ct,Aa G,ct,kQ G,Abl,MD,ME,YH,Asx,IJ,gR,wS (by omega)]
  rw[Fg G]at I T
  unfold Jj at I T
  simp only[A7x]at I T
  cases hb:(L[j].k==k)with
  | true =>
   rw[hb]at I T
   have hkk:k=0\/k=1\/k=2:=by
    have:=hk L[j] (A24 G)
    rwa [show L[j].k=k by simpa using hb]at this
   rw[show(true==true)=true from rfl,ct,Ef,ct,Cj,Abn Y hN hkk]
   cases ho:MF u h k with
   |true=>rw[ho]at T;exact T _ rfl
   |false =>
    rw[ho]at I
    rw[show(cond true false false)=false from rfl,cf]
    exact kR Y hN hL hk m (j+1) D (by omega) (by omega) (fun _=>I rfl) (fun t ht=>by rw[ho]at ht;cases ht)
  |false =>
   rw[hb]at I T
   rw[show(false==true)=false from rfl,cf]
   exact kR Y hN hL hk m (j+1) D (by omega) (by omega) I T
def Ak2{N:Nat}{X:O R}{K:LA->Bool->O R}{u:UnitD}{s:StD}{o d:Bool}{h k:Int}(hs:Bg u=true)(D:C4 u s)(G:u.away.l.length<=1000)(hN:1100<=N)
  (I:Og u h s k=none->K [Bbr,Bbr] false=X) (L:∀ t,Og u h s k=some t->K t.av true=X):HN N u.av o h s.av d k K=X:=by
 rw[d8];unfold UZ
 rw[Ef,ct,IJ,ct,gR,ID,ct,Cj,YG hN hs D]
 have:=Zb (u:=u) (s:=s)
 exact kR G hN (by omega) (fun t T=>Abo hs D T) (Bl u s).length 0 N (by omega) (by omega) I L
def Au2:((beq (List.length [AV.int .i64 0,Bbr]) 2)&&((ble 2 2)&&(!false)))=true:=rfl
def w6{N:Nat}{X:O R}{K:Nat->Int->Int->LA->O R}{u:UnitD}{ks:List Int}{i j o:Bool}(hN:1100<=N)(hs:Bg u=true)(hk:ks.length<=1000)(hl:u.away.l.length<=1000):∀(m h D:Nat)(s:StD)(l:List StD),h+m=ks.length->m<D->l.length=h->C4 u s ->
  ((Cb u h s (ks.drop h)).2=true->K ks.length ks.length 0 ((l++(Cb u h s (ks.drop h)).1).flatMap StD.av)=X)->((Cb u h s (ks.drop h)).2=false->K 0 ((l++(Cb u h s (ks.drop h)).1).length:Nat) 16 []=X) ->
  Mq N K (Am ks) ks.length i j o u.av D l.length (h:Int) (l.flatMap StD.av) s.av=X:=by
 intro m
 induction m with
|zero =>
  intro h D s l hh hf T I L _
  obtain⟨D,rfl⟩:∃ k,D=k+1:=⟨D - 1,by omega⟩
  rw[Mq];unfold Ye
  rw[Rc (by omega),cf,show l.length=ks.length by omega]
  rw[Jx (by omega)]at L
  simpa[Cb]using L rfl
| succ m ih =>
  intro h D s l hh hf T I L Y
  obtain⟨D,rfl⟩:∃ k,D=k+1:=⟨D - 1,by omega⟩
  rw[Mq];unfold Ye
  have G:h<ks.length:=by omega
  rw[Ox G,ct,Ef,ct,IJ,ct,Aa G,ct,Bh G,Cj,gR]
  rw[Fg G,Cb]at L Y
  refine Ak2 hs I hl hN (fun hn=>?_) (fun t ht=>?_)
  ·rw[hn]at Y
   rw[Au2,ct]
   simpa[T]using Y rfl
  ·rw[ht]at L Y
   rw[YH,ct,show(!true)=false from rfl,cf,Asx,IJ,ct,gR,Ayo,ct,Atb (by omega),ct,ct,show ∀ t:StD,((beq (List.length t.av) 2)&&(true&&(!false)))=true from fun _=>rfl,ct,Asx,gR,Ak0,TJ,wS (by omega)]
   have:=ih (h+1) D t (l++[t]) (by omega) (by omega) (by simp;omega) (BL hs I ht).1
    (fun hw=>by have:=L hw;simpa using this) (fun hw=>by have:=Y hw;simpa using this)
   simpa using this
def EJ{N:Nat}{X:O R}{K:Nat->Int->Int->LA->O R}{u:UnitD}{ks:List Int}{n:Nat}{i j o:Bool}(hN:1100<=N)(hs:Bg u=true)(k:u.away.l.length<=1000)(D:ks.length<=1000)(G:n=ks.length)
  (I:(Cb u 0 (Ar u) ks).2=true->K ks.length ks.length 0 ((Cb u 0 (Ar u) ks).1.flatMap StD.av)=X) (L:(Cb u 0 (Ar u) ks).2=false->K 0 ((Cb u 0 (Ar u) ks).1.length:Nat) 16 []=X) :
  Vo N u.av o (Am ks) n i j K=X:=by
 subst G
 rw[d9];unfold U_
 rw[Ef,ct,Cj,Mr,hs,show(!true)=false from rfl,cf,ct,Uh hs,YH,ct,Asx]
 exact w6 hN hs D k ks.length 0 N (Ar u) [] (by omega) (by omega) rfl (Oa hs) (by simpa using I) (by simpa using L)
def L8(u:UnitD)(s t:StD):Int:=cond (s.k==0&&!(t.k==0)) (cond (decide (s.h<=u.hotHours)) u.hotCost u.coldCost) 0
def Ard{N:Nat}{s t:StD}{d b:Bool}{K:Bool->O R}:N5 N s.av d b t.av K=K ((s.k==t.k)&&((s.h==t.h)&&true)):=by
 rw[Vt];unfold R4
 simp only[IJ,gR,ID,Abm,ct,V0,Sc]
def Ayp{s t:StD}(e:¬ s=t):((s.k==t.k)&&((s.h==t.h)&&true))=false:=by
 cases D:((s.k==t.k)&&((s.h==t.h)&&true))with
|false=>rfl
|true=>exact absurd ((yQ _ _).1 D) e
def yU{N:Nat}{X:O R}{K:Int->O R}{L:List StD}{a b c:Bool}{t:StD}(hL:L.length<=1000)(hX:∀ i:Nat,K (i:Int)=X):∀(m j k:Nat),j+m=L.length->m<k->t∈L.drop j ->
  Ay N K (L.flatMap StD.av) L.length a b c t.av k (L.length:Int) (j:Int)=X
|0,j,k+1,G,_,D=>by rw[Jx (by omega)]at D;simp at D
| m+1,j,k+1,G,I,D=>by
  rw[Ay];unfold Cd
  have h:j<L.length:=by omega
  rw[Ox h,ct,Aa h,ct,Afo h,MD,ct,ME,ID,ct,Ard]
  by_cases e:L[j]=t
  ·rw[(yQ _ _).2 e,ct];exact hX j
  ·rw[Ayp e,cf,wS (by omega)]
   rw[Fg h]at D
   exact yU hL hX m (j+1) k (by omega) (by omega) (by
    rcases A28.1 D with D|D
    ·exact absurd D.symm e
    ·exact D)
def uU{N:Nat}{K:Int->O R}{u:UnitD}{s t:StD}{o d f:Bool}(hN:1100<=N)(hs:Bg u=true)(G:C4 u s)(L:t∈Bl u s):Yq N u.av o s.av d t.av f K=K (L8 u s t):=by
 rw[HW];unfold FV
 rw[V0,V0]
 unfold L8
 by_cases D:s.k=0
 ·rw[show((s.k != 0)==false)=true by simp[D],ct,show(s.k==0)=true by simpa using D]
  by_cases I:t.k=0
  ·rw[show(t.k==0)=true by simpa using I];rfl
  ·rw[show(t.k==0)=false by simpa using I,show((cond false true false)==false)=true from rfl,ct,Ef,ct,IJ,ct,gR,ID,ct,Cj,MC (by omega) hs G]
   rw[Di];unfold Ce
   rw[D1];unfold Bn
   have:=Zb (u:=u) (s:=s)
   refine yU (by omega) (fun i=>?_) (Bl u s).length 0 N (by omega) (by omega) L
   rw[show decide ((i:Int)>=0)=true by simp]
   dsimp only
   rw[show(cond false true (!true))=false from rfl,cf,Sc,Auo,Axk,Axl]
   cases decide (s.h<=u.hotHours)<;>rfl
 ·rw[show((s.k != 0)==false)=false by simp[D],cf,show(s.k==0)=false by simpa using D];rfl
def Afs{N:Nat}{K:Bool->O R}{L:List StD}{t:StD}{c:Bool}(hL:L.length<=10000):∀(m j D:Nat),j+m=L.length->m<D->t∈L.drop j->Jd N K L.length c t.av (L.flatMap StD.av) D (j:Int)=K true
|0,j,D+1,T,_,G=>by rw[Jx (by omega)]at G;simp at G
| m+1,j,D+1,T,hf,G=>by
  have h:j<L.length:=by omega
  rw[Jd];unfold Wr
  simp only[Ox h,ct,Aa h,kQ h,MD,ME,IJ,gR,ID,Abm,V0,Sc]
  by_cases e:L[j]=t
  ·rw[(yQ _ _).2 e,ct]
  ·have:((L[j].k==t.k)&&((L[j].h==t.h)&&true))=false:=by
    cases Y:((L[j].k==t.k)&&((L[j].h==t.h)&&true))with
    |false=>rfl
    |true=>exact absurd ((yQ _ _).1 Y) e
   rw[this,cf,wS (by omega)]
   rw[Fg h]at G
   exact Afs hL m (j+1) D (by omega) (by omega) (by
    rcases A28.1 G with I|I
    ·exact absurd I.symm e
    ·exact I)
def pG{N:Nat}{K:Int->O R}{u:UnitD}{s t:StD}{o d f:Bool}(hN:1100<=N)(hs:Bg u=true)(G:C4 u s)(I:t∈Bl u s):Vf N u.av o s.av d t.av f K=K (L8 u s t):=by
 rw[DZ];unfold AU
 rw[Ef,ct,IJ,ct,gR,ID,ct,IJ,ct,gR,ID,ct,Cj,OI];unfold Yn
 rw[Ef,ct,IJ,ct,gR,ID,ct,Cj,YG hN hs G]
 have:=Zb (u:=u) (s:=s)
 have e:=Afs (N:=N) (c:=false) (K:=fun i=>cond ((!i)==false) (Aj .i64 s.av fun j=>cond ((cond false true (j != (0:Int)))==false) (Aj .i64 t.av fun l=>cond (cond false true (l==(0:Int))) (K 0) (Aj .i64 (drop 1 s.av) fun m=>Aj .i64 (drop 15 u.av) fun n=>cond (decide (m<=n)) (Aj .i64 (drop 13 u.av) fun o=>K o) (Aj .i64 (drop 14 u.av) fun p=>K p))) (K 0)) (K 0)) (L:=Bl u s) (t:=t) (by omega) (Bl u s).length 0 N (by omega) (by omega) I
 refine Eq.trans e ?_
 simp only[V0,Sc,Axk,Axl,Auo]
 unfold L8
 by_cases D:s.k=0
 ·rw[show(s.k != 0)=false by simp[D],show(s.k==0)=true by simpa using D]
  cases (t.k==0)<;>cases decide (s.h<=u.hotHours)<;>rfl
 ·rw[show(s.k != 0)=true by simp[D],show(s.k==0)=false by simpa using D];rfl
end
end Gx
namespace Gx
open Go Go.Proofs
section
variable{R:Type}
structure PlanD where
 st:Sl Int
 en:Sl RatD
 re:Sl RatD
def PlanD.av(p:PlanD):LA:=[p.st.av 1 Am3,p.en.av 3 RatD.av,p.re.av 3 RatD.av]
def p0{p:PlanD}{f:LA->Nat->O R}:Dd 1 p.av f=f (Am p.st.l) p.st.l.length:=by rw[<-Ny];exact s7
def p1{p:PlanD}{f:LA->Nat->O R}:Dd 3 (drop 1 p.av) f=f (p.en.l.flatMap RatD.av) p.en.l.length:=s7
def p2{p:PlanD}{f:LA->Nat->O R}:Dd 3 (drop 2 p.av) f=f (p.re.l.flatMap RatD.av) p.re.l.length:=s7
def Azh(p:PlanD):ble 3 (List.length p.av)=true:=rfl
def Azi(p:PlanD):take 3 p.av=p.av:=rfl
def OR(x:RatD)(r:LA):ble 3 (List.length (x.av++r))=true:=rfl
def Wy(x:RatD)(r:LA):take 3 (x.av++r)=x.av:=rfl
def okR(l:List RatD):Prop:=∀ x∈l,x.is x.q 4
def okR.at{l:List RatD}(h:okR l){i:Nat}(hi:i<l.length):(l[i]).is (l[i]).q 4:=h _ (A24 hi)
def uR(u:UnitD):Prop:=(0<=u.min/\u.min<=1048576)/\(0<=u.max/\u.max<=1048576)/\(0<=u.rampUp/\u.rampUp<=1048576)/\(0<=u.rampDown/\u.rampDown<=1048576)/\(0<=u.reserve/\u.reserve<=1048576)/\(0<=u.startRamp/\u.startRamp<=1048576)/\(0<=u.stopRamp/\u.stopRamp<=1048576)/\(0<=u.noLoad/\u.noLoad<=1048576)/\(0<=u.hotCost/\u.hotCost<=1048576)/\(0<=u.coldCost/\u.coldCost<=1048576)/\(0<=u.reservePrice/\u.reservePrice<=1048576)/\(0<=u.output/\u.output<=1048576)
def Bf{u:UnitD}{h:Int}(D:A4 u h=true):Bg u=true/\uR u/\(1<=h/\h<=24):=by
 simp only[A4,A2y,Im,decide_eq_true_eq]at D
 obtain⟨h1,I,h3,h4,h5,h6,h7,h8,h9,L,T,Y,h13,h14,k,h16⟩:=D
 refine⟨I,?_,by omega⟩
 have ho:0<=u.output/\u.output<=1048576:=by
  unfold Am6 at k
  cases G:(u.state==2)with
  |true=>rw[G]at k;simp[Im]at k;omega
  |false=>rw[G]at k;simp at k;omega
 unfold uR;omega
def P8(u:UnitD)(on:Bool)(e r:Rat):Bool:=cond on (decide ((u.min:Rat)<=e)&&(Axq r 0 u.reserve&&decide (e+r<=(u.max:Rat)))) (decide (e=0)&&decide (r=0))
def EK(u:UnitD)(was on:Bool)(v e r:Rat):Bool:=cond (on&&was) (decide (e+r - v<=(u.rampUp:Rat))&&decide (v - e<=(u.rampDown:Rat))) (cond on (decide (e+r<=(u.startRamp:Rat))) (cond was (decide (v<=(u.stopRamp:Rat))) true))
def yV{q:Rat}:(q.num.sign==0)=decide (q=0):=by rw[A4s];simp[A6s,A6h]
section
variable{N:Nat}{K:Bool->O R}{x y z:RatD}{e r v:Rat}{m:Nat}{o o' o'':Bool}{u:UnitD}{c:Int}
def Ayq(k:x.is e m)(D:fit (8*m+10) N){K:Int->O R}:Vq N x.av o K=K e.num.sign:=by rw[SE k.1 (D.le (by have:=k.2.2;omega)),k.2.1]
end
end
end Gx
namespace Gx.Uo
open Go Go.Proofs
section
variable{R:Type}{N:Nat}{X:O R}
def Awh{K:LA->O R}{x y:RatD}{p q:Rat}{o o':Bool}(k:x.can p)(D:y.can q)(G:fit (8*(qm p+qm q)+40) N)(h:∀ d:RatD,d.can (if q<=p then p else q)->K d.av=X):Aad N x.av o y.av o' K=X:=by
 rw[rg];unfold Aac
 rw[b3,ct,b3,ct,Y9,Y9,XX k.ok D.ok (G.le (by rw[k.m,D.m];omega)),k.q,D.q,Aiu]
 by_cases hc:q<=p
 ·obtain⟨c,c1,I⟩:=LK (R:=R) (N:=N) (o:=o) k.ok (G.le (by rw[k.m];omega))
  rw[k.q]at c1
  rw[decide_eq_true hc,ct,ct,I,c3,ct,b3,ct,Y9]
  exact h c (by rw[if_pos hc];exact c1)
 ·obtain⟨c,c1,I⟩:=LK (R:=R) (N:=N) (o:=o') D.ok (G.le (by rw[D.m];omega))
  rw[D.q]at c1
  rw[decide_eq_false hc,cf,ct,I,c3,ct,b3,ct,Y9]
  exact h c (by rw[if_neg hc];exact c1)
def un(u:UnitD):Un:=⟨u.min,u.max,u.rampUp,u.rampDown,u.startRamp,u.stopRamp,u.reserve,u.noLoad,u.reservePrice,u.output,u.state==2,cU u,Za u⟩
def Ayr(E:List RatD)(o:Bool):AV:=.imm (E.flatMap RatD.av) E.length 3 false o
def gS(u:UnitD)(hs:Int)(E Q:List RatD)(V:List RatD)(o1 o2:Bool)(r:LA):LA:=u.av++(.int .i64 hs::Ayr E o1::Ayr Q o2::(S9 (Za u) V false++r))
section
variable{u:UnitD}{hs:Int}{E Q V:List RatD}{o1 o2:Bool}{r:LA}{f:Int->O R}{g:LA->Nat->O R}
def Axo:Aj .i64 ((gS u hs E Q V o1 o2 r).drop 2) f=f u.min:=Aw
def A14:Aj .i64 ((gS u hs E Q V o1 o2 r).drop 3) f=f u.max:=Aw
def A15:Aj .i64 ((gS u hs E Q V o1 o2 r).drop 5) f=f u.noLoad:=Aw
def Az9:Aj .i64 ((gS u hs E Q V o1 o2 r).drop 6) f=f u.rampUp:=Aw
def A16:Aj .i64 ((gS u hs E Q V o1 o2 r).drop 7) f=f u.rampDown:=Aw
def A0a:Aj .i64 ((gS u hs E Q V o1 o2 r).drop 8) f=f u.startRamp:=Aw
def Awi:Aj .i64 ((gS u hs E Q V o1 o2 r).drop 16) f=f u.reserve:=Aw
def A0b:Aj .i64 ((gS u hs E Q V o1 o2 r).drop 17) f=f u.reservePrice:=Aw
def A0c:Aj .i64 ((gS u hs E Q V o1 o2 r).drop 19) f=f u.state:=Aw
def A0d:Aj .i64 ((gS u hs E Q V o1 o2 r).drop 21) f=f u.output:=Aw
def A0e:Dd 3 ((gS u hs E Q V o1 o2 r).drop 23) g=g (E.flatMap RatD.av) E.length:=rfl
def A0f:Dd 3 ((gS u hs E Q V o1 o2 r).drop 24) g=g (Q.flatMap RatD.av) Q.length:=rfl
def Ays:Dd 1 ((gS u hs E Q V o1 o2 r).drop 25) g=g (Am (F4 (Za u))) (Za u).length:=rfl
def A17:((gS u hs E Q V o1 o2 r).drop 25).take 2=S9 (Za u) V false:=rfl
def A18:ble 2 ((gS u hs E Q V o1 o2 r).drop 25).length=true:=rfl
def A19:(gS u hs E Q V o1 o2 r).take 22=u.av:=rfl
def A2a:ble 22 (gS u hs E Q V o1 o2 r).length=true:=rfl
structure Pr(E:List RatD)(h:Nat)(a:Rat):Prop where
 lt:h<E.length
 is:E[h].is a 8
def Pr.qm{h:Nat}{a:Rat}(p:Pr E h a):qm a<=9:=p.is.qm
def Abp{K:LA->O R}{h:Nat}{b:Rat}{o:Bool}(G:uR u)(p:Pr Q h b)(D:fit 1000 N)(k:∀ d:RatD,d.can (Av (un u) b)->K d.av=X):F3 N (gS u hs E Q V o1 o2 r) o (h:Int) K=X:=by
 have G:=G.2.2.2.2.2.2.2.2.2.2.1
 have hN:=Atg D
 have i0:=qi (v:=0) (by omega);have i1:=qi (v:=u.reservePrice) (by omega)
 have qb:=p.qm
 have s1:=Om b (u.reservePrice:Rat)
 rw[Xg];unfold Ud
 refine D0 (by omega) (by omega) fun z I=>?_
 rw[A0f,Aa p.lt,ct,An0 p.lt,ct,A0b]
 refine D0 (by omega) (by omega) fun i hi=>?_
 rw[Awg p.lt]
 refine Ato p.is (hi.is i1) (D.le (by omega)) fun j L=>?_
 refine Awh I L (D.le (by omega)) fun d T=>?_
 rw[c3,ct,b3,ct,Y9]
 refine k d ?_
 have:Av (un u) b=if b - (u.reservePrice:Rat)<=((0:Int):Rat)then((0:Int):Rat)else b - (u.reservePrice:Rat):=by
  show mx 0 (b - (u.reservePrice:Rat))=_
  unfold mx
  rw[show((0:Int):Rat)=0 from rfl];grind
 rw[this];exact T
def V1{b:Rat}(k:uR u)(D:qm b<=9):qm (Av (un u) b)<=12:=by
 have k:=k.2.2.2.2.2.2.2.2.2.2.1
 have i0:=qi (v:=0) (by omega);have i1:=qi (v:=u.reservePrice) (by omega)
 have s1:=Om b (u.reservePrice:Rat)
 have:Av (un u) b=if 0<=b - (u.reservePrice:Rat)then b - (u.reservePrice:Rat)else((0:Int):Rat):=rfl
 rw[this];split<;>omega
def Are{h:Int}(k:A4 u h=true):Upto (cU u) (Za u) u.min u.max:=(yN (Hf k).2.1 (Hf k).2.2).1
def Arf{h:Int}(k:A4 u h=true){x:Int}(D:u.min<=x/\x<=u.max):qm (cU u x)<=500:=by
 have G:=E6 k
 have hs:=Hf k
 have i1:=qi (v:=x) (by omega);have i2:=qi (v:=u.min) (by omega)
 have s1:=Om (x:Rat) (u.min:Rat)
 have:=uD (A:=5) u.segs.l ((x:Rat) - u.min) (VI k) (by omega) (by omega)
 have I:u.segs.l.length*(5+3*u.segs.l.length+31)<=8*(5+24+31):=A46 hs.1 (by omega)
 unfold cU Abe
 rw[Aip];omega
def Abq{hh:Int}(k:A4 u hh=true){a:Rat}(G:qm a<=9){x:Int}(D:u.min<=x/\x<=u.max):qm (own (un u) a x)<=520:=by
 have I:=E6 k
 have L:=(Bf k).2.1.2.2.2.2.2.2.2.1
 have i1:=qi (v:=x) (by omega);have i2:=qi (v:=u.noLoad) (by omega)
 have i3:=Arf k D
 have m1:=Kb a (x:Rat)
 have m2:=Fz (a*x) (cU u x)
 have m3:=Om (a*x+cU u x) (u.noLoad:Rat)
 show qm (a*x+cU u x - (u.noLoad:Rat))<=520
 omega
def Au3{K:LA->O R}{h:Nat}{hh x:Int}{a:Rat}{o:Bool}(G:A4 u hh=true)(p:Pr E h a)(hV:VOk V (Za u))(hP:PB 500 (Za u))(I:u.min<=x/\x<=u.max)(D:fit 1000000 N)(k:∀ d:RatD,d.can (own (un u) a x)->K d.av=X):O9 N (gS u hs E Q V o1 o2 r) o (h:Int) x K=X:=by
 have hm:=E6 G
 have hn:=(Bf G).2.1.2.2.2.2.2.2.2.1
 have hN:100001000<=N:=by have:=D.1;omega
 have i1:=qi (v:=x) (by omega);have i2:=qi (v:=u.noLoad) (by omega)
 have i3:=Arf G I
 have qa:=p.qm
 have m1:=Kb a (x:Rat)
 have m2:=Fz (a*x) (cU u x)
 have up:=Are G
 rw[EG];unfold BF
 rw[A0e,Aa p.lt,ct,An0 p.lt,ct]
 refine D0 (by omega) (by omega) fun i hi=>?_
 rw[Awg p.lt]
 refine Att p.is (hi.is i1) (D.le (by omega)) fun e Y=>?_
 rw[c3,ct,b3,ct,A18,ct,A17]
 refine Ai0 hV hP up.cv (by rw[up.fst];exact I.1) (by rw[up.lst];exact I.2) (D.le (by omega)) (by omega) fun j l hj=>?_
 rw[Y9]
 refine ST Y hj (D.le (by omega)) fun m L=>?_
 rw[A15]
 refine D0 (by omega) (by omega) fun n T=>?_
 refine kF L T (D.le (by omega)) fun d hd=>?_
 rw[c3,ct,b3,ct,Y9]
 exact k d hd
def Arg{K:Bool->O R}{h:Nat}{o:Bool}:Do N (gS u hs E Q V o1 o2 r) o (h:Int) K=K (X1 (un u) h):=by
 rw[Qt];unfold M0
 unfold X1
 by_cases e:h=0
 ·subst e
  rw[show(((0:Nat):Int)==0)=true from rfl,show(true==true)=true from rfl,ct,A0c];rfl
 ·rw[show((h:Int)==0)=false by simp;exact e,show(false==true)=false from rfl,cf,show(h==0)=false by simp[e]];rfl
end
end
end Gx.Uo
