/- A part of the proof; each theorem says what it holds. -/
import Derived.Laws.BitsLemmas
import Derived.Laws.RangeAny
import Derived.Laws.RangeString
import Derived.Lib.ItoaLen
import Derived.Lib.AtoiAllCases
import Derived.Lib.IndexMore
import Derived.Lib.IndexLaws
import Derived.JoinedOf
import Derived.Test.YtpeocjkboabibaaGreatDoorCards
import Derived.Test.YtpeocjkboabibaaGreatDoorTie
import Derived.Deep.DeepHandedRow
import Derived.Deep.DeepWitnessRowRef
import Derived.LaidMore
import Derived.Shelf.Vars
import Derived.SevenTiedAt
import Derived.Lay
import Derived.Test.YtpeocjkboabibaaGreatDoorRows
import Derived.ChangeSame
import Derived.Test.YtpeocjkboabibaaGreatDoorP3
set_option linter.unusedVariables false
set_option linter.defProp false
set_option linter.unusedSimpArgs false
open Nat (ble beq)
open List (take drop replicate)
open Go.IntKind (wrap)
namespace Gx
open Go Go.Proofs
section
variable{R:Type}
def rT{N:Nat}:∀(k fuel n v:Nat),v<2 ^ k->k<fuel->n+k<=1000000000000->∃ b:Nat,b<=k/\v<2 ^ b/\(v≠0->2 ^ b<=2*v)/\(v=0->b=0)/\∀ K:Int->O R,M2 N K fuel (n:Int) (v:Int)=K ((n+b:Nat):Int)
|0,fuel+1,n,v,f,_,_=>by
  have d:v=0:=by simpa using f
  subst d
  refine⟨0,by omega,by simp,fun h=>absurd rfl h,fun _=>rfl,fun K=>?_⟩
  rw[M2];unfold Vj
  rw[show decide (((0:Nat):Int)>0)=false by rfl,cf];rfl
| k+1,fuel+1,n,v,f,u,hn=>by
  by_cases d:v=0
  ·subst d
   refine⟨0,by omega,by simp,fun h=>absurd rfl h,fun _=>rfl,fun K=>?_⟩
   rw[M2];unfold Vj
   rw[show decide (((0:Nat):Int)>0)=false by rfl,cf];rfl
  ·obtain⟨b,x,y,q,s,t⟩:=rT (N:=N) k fuel (n+1) (v/2) (by rw[Au7]at f;omega) (by omega) (by omega)
   refine⟨b+1,by omega,by rw[Au7];omega,fun _=>?_,fun h=>absurd h d,fun K=>?_⟩
   ·by_cases l:v/2=0
    ·rw[s l];simp;omega
    ·have:=q l;rw[Au7];omega
   ·rw[M2];unfold Vj
    rw[show decide ((v:Int)>0)=true by rw[decide_eq_true_eq];omega,ct,wS (by omega),eo v 1,show v/2 ^ 1=v/2 by rfl,t]
    congr 2;omega
def Adi{N:Nat}{a:List Nat}{n:Nat}{t o:Bool}(hn:n=a.length)(q:Ax a)(l:fit a.length N):∃ nb:Nat,nb<=32*a.length/\val a<2 ^ nb/\(val a≠0->2 ^ nb<=2*val a)/\(val a=0->nb=0)/\∀ K:Int->O R,UC N (Au a) n t o K=K (nb:Int):=by
 have C:=l.1;have D:=l.2
 have la:=(Hi q).2
 by_cases f:val a=0
 ·refine⟨0,by omega,by rw[f];simp,fun h=>absurd f h,fun _=>rfl,fun K=>?_⟩
  rw[OL];unfold LX
  rw[Gu hn q l,f,Gd];rfl
 ·have v:(Bb (val a)).length≠0:=fun h=>f (Er.1 h)
  obtain⟨k,s⟩:∃ k,(Bb (val a)).length=k+1:=⟨(Bb (val a)).length - 1,by omega⟩
  have top:=Jw (A2 (val a)) (show k<(Bb (val a)).length by omega)
  have d:(Bb (val a))[k]'(by omega)≠0:=by
   have:=Ajj (val a) (c8 f)
   rw[Ayf]at this
   simp only[s,Azg]at this
   exact this
  have tf:=uZ s
  have tl:=Adh (A2 (val a)) s
  rw[A5]at tf tl
  obtain⟨b,F,x,y,G,z⟩:=rT (R:=R) (N:=N) 32 N (32*k) ((Bb (val a))[k]'(by omega)) (by exact top) (by omega) (by omega)
  have u:(2:Nat) ^ (32*k+b)=4294967296 ^ k*2 ^ b:=by rw[Aw5,Ay8]
  refine⟨32*k+b,by omega,?_,fun _=>?_,fun h=>absurd h f,fun K=>?_⟩
  ·rw[u]
   have:((Bb (val a))[k]'(by omega)+1)*4294967296 ^ k<=2 ^ b*4294967296 ^ k:=Au8 _ x
   rw[Av6 (2 ^ b)]at this;omega
  ·rw[u]
   have:=Aw1 (4294967296 ^ k) (y d)
   rw[Ax8]at this
   omega
  ·rw[OL];unfold LX
   have A:wrap .i64 ((((Bb (val a)).length:Nat):Int) - 1)=(k:Int):=by rw[i64 (by omega)];omega
   have w2:wrap .i64 ((32:Int)*(k:Int))=((32*k:Nat):Int):=by rw[i64 (by omega)];omega
   rw[Gu hn q l,Ahf v,cf,A,Ab (by omega),ct,jM (by omega),w2]
   exact z K
def zt{a:List Nat}{j:Nat}(h:j<a.length):val a=val (a.take j)+4294967296 ^ j*(a[j]+4294967296*val (a.drop (j+1))):=by
 have:=c7 (a.take j) (a.drop j)
 rw[Axp,Avd,Avo (by omega),Ako h]at this
 exact this
def jn(j k:Nat):(2:Nat) ^ (32*j+k)=4294967296 ^ j*2 ^ k:=by rw[Aw5,Ay8]
def Am4{a:List Nat}{j k:Nat}(d:Ax a)(h:j<a.length)(n:k<32):val a/2 ^ (32*j+k)%2=a[j]/2 ^ k%2:=by
 have tl:=Nl (Nk d j)
 rw[Avd,Avo (by omega)]at tl
 have hP:0<4294967296 ^ j:=Axt (by omega)
 have f:0<2 ^ k:=Axt (by omega)
 rw[jn,<-Ayo,zt h,Ay4 _ _ hP,Awm tl,Aux]
 have e:4294967296=2 ^ k*(2*2 ^ (31 - k)):=by rw[<-Nat.pow_succ',<-Aw5,show k+(31 - k+1)=32 by omega]
 have l:4294967296*val (a.drop (j+1))=2 ^ k*(2*(2 ^ (31 - k)*val (a.drop (j+1)))):=by
  rw[<-Avu 2,<-Avu,<-e]
 rw[l,Ay4 _ _ f,Nat.add_mul_mod_self_left]
def Ahk{N:Nat}{a:List Nat}{n:Nat}{t o:Bool}{i:Nat}{K:Int->O R}(hn:n=a.length)(l:Ax a)(hi:i<32*a.length)(hs:a.length<=1000000000):nn N (Au a) n t o (i:Int) K=K ((val a/2 ^ i%2:Nat):Int):=by
 subst hn
 have d:i/32<a.length:=by omega
 have aj:=Jw l d
 rw[lE];unfold po
 have q:wrap .i64 (Int.tdiv (i:Int) 32)=((i/32:Nat):Int):=by rw[show(32:Int)=((32:Nat):Int) by rfl,zq,i64 (by omega)]
 have w2:wrap .u64 (Int.tmod (i:Int) 32)=((i%32:Nat):Int):=by rw[show(32:Int)=((32:Nat):Int) by rfl,zr,JX (by omega)]
 rw[q,w2,show decide (((i/32:Nat):Int)>=(a.length:Int))=false by rw[decide_eq_false_iff_not];omega,cf,Ab d,ct,wV d,show decide (((i%32:Nat):Int)<0)=false by rw[decide_eq_false_iff_not];omega,cf,Auf,Avo (by omega),eo]
 have f:a[i/32]/2 ^ (i%32)<4294967296:=Awk (Axe _ _) aj
 have e:=Abt (k:=.u32) rfl (a:=a[i/32]/2 ^ (i%32)) (b:=1) f (by decide)
 rw[show(1:Int)=((1:Nat):Int) by rfl,e,Nat.and_one_is_mod]
 have:=Am4 l d (k:=i%32) (by omega)
 rw[Awz]at this
 rw[this]
def Akq{Q:List Nat}{j k:Nat}(hQ:Ax Q)(h:j<Q.length)(l:k<32)(d:2 ^ (32*j+k+1)∣val Q):2 ^ (k+1)∣Q[j]:=by
 have tl:=Nl (Nk hQ j)
 rw[Avd,Avo (by omega)]at tl
 have hP:0<4294967296 ^ j:=Axt (by omega)
 rw[Avj,jn,zt h]at d
 have f:val (Q.take j)=0:=by
  have x1:4294967296 ^ j∣val (Q.take j):=(Nat.dvd_add_left (Ax7 _ _)).1 (Nat.dvd_trans (Ax7 _ _) d)
  exact Nat.eq_zero_of_dvd_of_lt x1 tl
 rw[f,Aux]at d
 have x2:=Nat.dvd_of_mul_dvd_mul_left hP d
 have x3:2 ^ (k+1)∣4294967296*val (Q.drop (j+1)):=Nat.dvd_trans ⟨2 ^ (31 - k),by rw[<-Aw5,show k+1+(31 - k)=32 by omega]⟩ (Ax7 _ _)
 exact(Nat.dvd_add_left x3).1 x2
def jo{N:Nat}{a b:List Nat}{t o:Bool}{B:Nat}(S:Ax a)(q:b=Bb B)(hB:0<B)(l:fit (a.length+2*b.length+4) N):∀(i fuel:Nat)(Q:List Nat)(r:Nat),i<fuel->i<=32*a.length->Ax Q->Q.length=a.length->r=val a/2 ^ i%B->val Q=val a/2 ^ i/B*2 ^ i ->
  ∀ K:Nat->Nat->Bool->LA->LA->O R,G6 N K (Au a) a.length t o b.length (Au b) fuel (Bb r).length ((i:Int) - 1) (Au Q) (Au (Bb r))=K (Bb (val a/B)).length (Bb (val a%B)).length true (Au (Bb (val a/B))) (Au (Bb (val a%B)))
| 0,fuel+1,Q,r,_,_,hQ,A,hr,s=>by
  intro K
  rw[Ayq,Nat.div_one]at hr s
  rw[Auz]at s
  have lr:(Bb r).length<=b.length:=by
   rw[q];apply Lf;rw[hr];exact Nat.le_of_lt (Aw0 _ hB)
  rw[G6];unfold Vk
  rw[show decide ((((0:Nat):Int) - 1)>=0)=false by rfl,cf,Auz,Aue (by rw[Fc];omega),Gu A.symm hQ (by rw[A];exact l.le (by omega)),Auz,Aue (by rw[Fc];omega),Gu rfl (A2 _) (l.le (by omega)),A5,s,hr]
| i+1,fuel+1,Q,r,hfu,hi,hQ,A,hr,s=>by
  intro K
  have h1:=l.1;have h2:=l.2
  have hrB:r<B:=by rw[hr];exact Aw0 _ hB
  have lr:(Bb r).length<=b.length:=by rw[q];exact Lf (Nat.le_of_lt hrB)
  have f:val a/2 ^ i=2*(val a/2 ^ (i+1))+val a/2 ^ i%2:=by
   have:=Awz (val a/2 ^ i) 2
   rw[Ayo,<-Au7]at this
   exact this.symm
  have T:=Awz (val a/2 ^ (i+1)) B
  have hb2:val a/2 ^ i%2<2:=Aw0 _ (by omega)
  generalize hH:val a/2 ^ (i+1)=H at *
  generalize C:val a/2 ^ i%2=bt at *
  have d:val a/2 ^ i=B*(2*(H/B))+(2*r+bt):=by
   rw[f,hr,Ax8];omega
  clear hr T f
  have D:i/32<Q.length:=by omega
  have qj:=Jw hQ D
  have F:2 ^ (32*(i/32)+i%32+1)∣val Q:=by rw[Awz,s];exact Nat.dvd_mul_left _ _
  have u:=Akq hQ D (Aw0 _ (by omega)) F
  have U:2 ^ i=4294967296 ^ (i/32)*2 ^ (i%32):=by rw[<-jn,Awz]
  have G:2 ^ (i%32+1)<=4294967296:=(Avb (by omega) (show i%32+1<=32 by omega):2 ^ (i%32+1)<=2 ^ 32)
  have I:kj .u32 ((Q[i/32]:Nat):Int) (wrap .u32 ((1:Int)*2 ^ (min (Int.toNat ((i%32:Nat):Int)) 32)))=((Q[i/32]+2 ^ (i%32):Nat):Int)/\Q[i/32]+2 ^ (i%32)<4294967296:=by
   obtain⟨c,V⟩:=u
   have Y:0<2 ^ (i%32):=Axt (by omega)
   have X:Q[i/32]+2 ^ (i%32)<4294967296:=by
    obtain⟨w,hw⟩:∃ w,4294967296=2 ^ (i%32+1)*w:=⟨2 ^ (31 - i%32),by rw[<-Aw5,show i%32+1+(31 - i%32)=32 by omega]⟩
    have x1:c<w:=by rw[V,hw]at qj;exact Nat.lt_of_mul_lt_mul_left qj
    have x2:=Aw1 (2 ^ (i%32+1)) (show c+1<=w from x1)
    rw[Avt,<-hw,<-V,Auz,Au7]at x2
    omega
   refine⟨?_,X⟩
   rw[Auf,Avo (by omega),Int.one_mul,show(2:Int) ^ (i%32)=((2 ^ (i%32):Nat):Int) by simp,Aoa (by rw[Au7]at G;omega),te (k:=.u32) rfl qj (by show 2 ^ (i%32)<4294967296;rw[Au7]at G;omega)]
   congr 1
   have e:Q[i/32]=c*2 ^ (i%32+1):=by rw[V,Av6]
   rw[e];exact Ab6 (by rw[Au7];omega)
  have w1:wrap .i64 (Int.tdiv (i:Int) 32)=((i/32:Nat):Int):=by rw[show(32:Int)=((32:Nat):Int) by rfl,zq,i64 (by omega)]
  have w2:wrap .u64 (Int.tmod (i:Int) 32)=((i%32:Nat):Int):=by rw[show(32:Int)=((32:Nat):Int) by rfl,zr,JX (by omega)]
  have l2:(Bb (2*r+bt)).length<=b.length+1:=by
   apply FB
   have x1:=Nl (A2 B)
   rw[A5,<-q]at x1
   rw[Au7];omega
  have second:O6 N (G6 N K (Au a) a.length t o b.length (Au b) fuel) K (Au a) a.length t o b.length (i:Int) (Au b) (Au Q) (Bb (2*r+bt)).length (Au (Bb (2*r+bt)))=K (Bb (val a/B)).length (Bb (val a%B)).length true (Au (Bb (val a/B))) (Au (Bb (val a%B))):=by
   unfold O6
   have lb:Ax b:=by rw[q];exact A2 _
   have vb:val b=B:=by rw[q,A5]
   rw[Auz,Auz,Aue (by rw[Fc];omega),Aue (by rw[Fc];omega),Ahj rfl rfl (A2 _) lb (l.le (by omega)),A5,vb]
   by_cases M:B<=2*r+bt
   ·have y:val a/2 ^ i/B=2*(H/B)+1:=by
     rw[d,show B*(2*(H/B))+(2*r+bt)=B*(2*(H/B)+1)+(2*r+bt - B) by rw[Avt];omega,Nat.mul_add_div hB,Awm (show 2*r+bt - B<B by omega),Awu]
    have z:val a/2 ^ i%B=2*r+bt - B:=by
     rw[d,show B*(2*(H/B))+(2*r+bt)=B*(2*(H/B)+1)+(2*r+bt - B) by rw[Avt];omega,Nat.mul_add_mod,Avg (by omega)]
    rw[if_pos M,ct,w1,w2,Ab (by omega),ct,jM D,show decide (((i%32:Nat):Int)<0)=false by rw[decide_eq_false_iff_not];omega,cf,ct,Aee D,ct,I.1,qH,i64 (by omega)]
    refine jo S q hB l i fuel (Q.set (i/32) (Q[i/32]+2 ^ (i%32))) (2*r+bt - B) (by omega) (by omega) (O5 hQ I.2 _) (by simpa using A) z.symm ?_ K
    have x1:=nv (v:=Q[i/32]+2 ^ (i%32)) D
    rw[Avt,<-U]at x1
    rw[y,Av5,Ay7,Av6 2,Avu,Av6 2,<-Au7,<-s]
    omega
   ·have y:val a/2 ^ i/B=2*(H/B):=by rw[d,Nat.mul_add_div hB,Awm (show 2*r+bt<B by omega),Awu]
    have z:val a/2 ^ i%B=2*r+bt:=by rw[d,Nat.mul_add_mod,Avg (by omega)]
    rw[if_neg M,cf,i64 (by omega)]
    refine jo S q hB l i fuel Q (2*r+bt) (by omega) (by omega) hQ A z.symm ?_ K
    rw[y,Av6 2,Avu,Av6 2,<-Au7,<-s]
  rw[G6];unfold Vk
  rw[show(((i+1:Nat):Int) - 1)=(i:Int) by omega,show decide ((i:Int)>=0)=true by rw[decide_eq_true_eq];omega,ct,Auz,Aue (by rw[Fc];omega),u5 rfl rfl (A2 _) (A2 _) (l.le (by omega)),A5,Ahk rfl S (by omega) (by omega),C]
  have l3:(Bb (r+r)).length<=b.length+1:=by
   apply FB
   have x1:=Nl (A2 B)
   rw[A5,<-q]at x1
   rw[Au7];omega
  rcases(show bt=0\/bt=1 by omega)with rfl|rfl
  ·rw[show(((0:Nat):Int)==1)=false by rfl,cf]
   rw[show 2*r+0=r+r by omega]at second
   exact second
  ·rw[show(((1:Nat):Int)==1)=true by rfl,ct,Auz,Aue (by rw[Fc];omega)]
   have:=u5 (R:=R) (N:=N) (a:=Bb (r+r)) (b:=[1]) (n:=(Bb (r+r)).length) (m:=1) (t:=false) (o:=true) (t':=false) (o':=true) (K:=fun af ag=>O6 N (G6 N K (Au a) a.length t o b.length (Au b) fuel) K (Au a) a.length t o b.length (i:Int) (Au b) (Au Q) af ag) rfl rfl (A2 _) (by intro x hx;simp at hx;omega) (l.le (by simp;omega))
   rw[A5,show val [1]=1 by rfl,show r+r+1=2*r+1 by omega]at this
   exact this.trans second
def xS{N:Nat}{a b:List Nat}{n m:Nat}{t o t' o':Bool}{K:Nat->Nat->Bool->LA->LA->O R}(hn:n=a.length)(A:m=b.length)(u:Ax a)(y:Ax b)(q:val b≠0)(l:fit (a.length+2*b.length+4) N):
  Ua N (Au a) n t o (Au b) m t' o' K=K (Bb (val a/val b)).length (Bb (val a%val b)).length true (Au (Bb (val a/val b))) (Au (Bb (val a%val b))):=by
 have C:=l.1;have D:=l.2
 have lb:=(Hi y).2
 have v:(Bb (val b)).length≠0:=fun h=>q (Er.1 h)
 rw[UD];unfold HZ
 dsimp only
 have long:Sz N K (Au a) n t o (Bb (val b)).length (Au (Bb (val b)))=K (Bb (val a/val b)).length (Bb (val a%val b)).length true (Au (Bb (val a/val b))) (Au (Bb (val a%val b))):=by
  obtain⟨nb,n1,n2,n3,n4,n5⟩:=Adi (R:=R) (N:=N) (a:=a) (n:=n) (t:=false) (o:=o) hn u (l.le (by omega))
  unfold Sz FF
  rw[n5,hn,Aox (by omega),ct,Mr,i64 (by omega)]
  have z:val a/2 ^ nb=0:=Awm n2
  have:=jo (R:=R) (N:=N) (a:=a) (b:=Bb (val b)) (t:=t) (o:=o) (B:=val b) u rfl (by omega) (l.le (by omega)) nb N (replicate a.length 0) 0 (by omega) n1 (Jx _) (by simp) (by rw[z];simp) (by rw[z,Le];simp) K
  exact this
 rw[Gu A y (l.le (by omega)),Ahf v,cf,DL hn u (l.le (by omega)),Auz,Aue (by rw[Fc];exact Aui _)]
 by_cases f:val a<18446744073709551616
 ·rw[if_pos f,DL rfl (A2 _) (l.le (by omega)),A5]
  by_cases d:val b<18446744073709551616
  ·have s:val a/val b<18446744073709551616:=Awk (Axe _ _) f
   have x:val a%val b<18446744073709551616:=Awk (Nat.mod_le _ _) f
   rw[if_pos d,show((true:Bool)==true)=true by rfl,ct,Aov,ct,Ahf q,cf,zq,JX s,JH s (by omega),cf,zr,JH x (by omega)]
  ·rw[if_neg d,show((true:Bool)==true)=true by rfl,ct,Aov,cf,long]
 ·rw[if_neg f,DL rfl (A2 _) (l.le (by omega)),A5]
  by_cases d:val b<18446744073709551616
  ·rw[if_pos d,show((false:Bool)==true)=false by rfl,cf,long]
  ·rw[if_neg d,show((false:Bool)==true)=false by rfl,cf,long]
inductive LS where
|nil
|of (l:List Nat) (t o:Bool)
def LS.l:LS->List Nat
|.nil=>[]
|.of l _ _=>l
def LS.av:LS->AV
|.nil=>.nsl
|.of l t o=>.imm (Au l) l.length 1 t o
def Adj{s:LS}{r:LA}{f:LA->Nat->O R}:By 1 (s.av::r) f=f (Au s.l) s.l.length:=by cases s<;>simp[By,LS.av,LS.l,Aim,Au]
def Aog{b:Bool}{r:LA}{f:Bool->O R}:HF (.bool b::r) f=f b:=by simp[HF,asBool]
def AN(neg:Bool)(s:LS):LA:=[.bool neg,s.av]
def K5(neg:Bool)(s:LS):Int:=if neg then -(val s.l:Int)else(val s.l:Int)
def mJ(neg:Bool)(s:LS):(K5 neg s).natAbs=val s.l:=by unfold K5;cases neg<;>simp
def d6{neg:Bool}{s:LS}{f:Bool->O R}:HF (AN neg s) f=f neg:=Aog
def h_{neg:Bool}{s:LS}{f:LA->Nat->O R}:By 1 (drop 1 (AN neg s)) f=f (Au s.l) s.l.length:=by rw[AN,Avm,Au0,Adj]
def Ri{N:Nat}{c:Bool}{a:Nat}{b:LA}{K:Bool->O R}:O7 N c a b K=K (c&&decide (0<a)):=by
 rw[aT];unfold dA
 cases c<;>simp
def DX{z:Int}{c:Bool}{m:Nat}(h:z=if c then -(m:Int)else(m:Int)):(c&&decide (0<(Bb m).length))=decide (z<0)/\z.natAbs=m:=by
 have l:z.natAbs=m:=by rw[h];cases c<;>simp
 refine⟨?_,l⟩
 by_cases f:m=0
 ·subst f;rw[h,Gd];cases c<;>simp
 ·have:0<(Bb m).length:=by
   rcases Avv (Bb m).length with d|d
   ·exact absurd (Er.1 d) f
   ·exact d
  rw[h];cases c<;>simp[this]<;>omega
def Tg{N:Nat}{v:Int}(q:-9223372036854775808<=v/\v<=9223372036854775807)(hN:4<=N):∃ S,Ax S/\val S=v.natAbs/\∀ K:Bool->Nat->LA->O R,Nn N v K=K (decide (v<0)) (Bb v.natAbs).length (Au S):=by
 have l:v.natAbs<18446744073709551616:=by omega
 obtain⟨S,s1,s2,f⟩:=dY (R:=R) (N:=N) l hN
 refine⟨S,s1,s2,fun K=>?_⟩
 rw[UG];unfold UF
 by_cases h:v<0
 ·have e:wrap .u64 ((0:Int) - wrap .u64 v)=(v.natAbs:Int):=by rw[fP,fP];omega
  rw[decide_eq_true h,ct,e,f,Ri]
  have n:v.natAbs≠0:=by omega
  have:0<(Bb v.natAbs).length:=by
   rcases Avv (Bb v.natAbs).length with d|d
   ·exact absurd (Er.1 d) n
   ·exact d
  simp[this]
 ·have e:wrap .u64 v=(v.natAbs:Int):=by rw[fP];omega
  rw[decide_eq_false h,cf,e,f,Ri];rfl
def rU{N:Nat}{neg:Bool}{s:LS}{o:Bool}{K:Int->O R}(hs:Ax s.l)(d:fit s.l.length N):XV N (AN neg s) o K=K (K5 neg s).sign:=by
 rw[lH];unfold qF
 rw[h_,rQ rfl hs d]
 unfold K5
 by_cases h:val s.l=0
 ·rw[h,MS,show((0:Int)==0)=true by rfl,ct];cases neg<;>rfl
 ·have:U3 (val s.l) 0=1:=by unfold U3;rw[if_neg (by omega),if_pos (by omega)]
  rw[this,show((1:Int)==0)=false by rfl,cf,d6]
  cases neg
  ·rw[cf];simp only[Awq,if_false]
   congr 1
   rw[Av1];omega
  ·rw[ct];simp only[if_true]
   congr 1
   rw[Avp];omega
def Ahl{N:Nat}{n1 n2:Bool}{s1 s2:LS}{o1 o2:Bool}(d:Ax s1.l)(f:Ax s2.l)(n:fit (s1.l.length+s2.l.length) N):∃ S,Ax S/\val S=(K5 n1 s1*K5 n2 s2).natAbs/\∀ K:Bool->Nat->LA->O R,UH N (AN n1 s1) o1 (AN n2 s2) o2 K=K (decide (K5 n1 s1*K5 n2 s2<0)) (Bb (K5 n1 s1*K5 n2 s2).natAbs).length (Au S):=by
 obtain⟨S,a1,a2,a3⟩:=Akn (R:=R) (N:=N) (a:=s1.l) (b:=s2.l) (t:=false) (o:=o1) (t':=false) (o':=o2) rfl rfl d f n
 have q:K5 n1 s1*K5 n2 s2=if (!(n1==n2))then -((val s1.l*val s2.l:Nat):Int)else((val s1.l*val s2.l:Nat):Int):=by
  unfold K5;cases n1<;>cases n2<;>simp[Int.mul_neg,Int.neg_mul]
 obtain⟨c1,c2⟩:=DX q
 refine⟨S,a1,by rw[a2,c2],fun K=>?_⟩
 rw[qB];unfold wJ
 rw[d6,d6,h_,h_,a3,Ri,c1,c2]
def Ahm{N:Nat}{n1 n2:Bool}{s1 s2:LS}{o1 o2:Bool}(n:Ax s1.l)(q:Ax s2.l)(s:fit (s1.l.length+s2.l.length+1) N):∃ S,Ax S/\val S=(K5 n1 s1+K5 n2 s2).natAbs/\∀ K:Bool->Nat->LA->O R,wQ N (AN n1 s1) o1 (AN n2 s2) o2 K=K (decide (K5 n1 s1+K5 n2 s2<0)) (Bb (K5 n1 s1+K5 n2 s2).natAbs).length (Au S):=by
 by_cases hn:n1=n2
 ·subst hn
  obtain⟨S,a1,a2,a3⟩:=Aki (R:=R) (N:=N) (a:=s1.l) (b:=s2.l) (t:=false) (o:=o1) (t':=false) (o':=o2) rfl rfl n q s
  have d:K5 n1 s1+K5 n1 s2=if n1 then -((val s1.l+val s2.l:Nat):Int)else((val s1.l+val s2.l:Nat):Int):=by
   unfold K5;cases n1<;>simp;omega
  obtain⟨c1,c2⟩:=DX d
  refine⟨S,a1,by rw[a2,c2],fun K=>?_⟩
  rw[OR];unfold f8
  rw[d6,d6,show(n1==n1)=true by simp,ct,d6,h_,h_,a3,Ri,c1,c2]
 ·have f:(n1==n2)=false:=by simp[hn]
  by_cases u:val s2.l<=val s1.l
  ·obtain⟨S,a1,a2,a3⟩:=zp (R:=R) (N:=N) (a:=s1.l) (b:=s2.l) (t:=false) (o:=o1) (t':=false) (o':=o2) rfl rfl n q (s.le (by omega)) u
   have d:K5 n1 s1+K5 n2 s2=if n1 then -((val s1.l - val s2.l:Nat):Int)else((val s1.l - val s2.l:Nat):Int):=by
    unfold K5;cases n1<;>cases n2<;>simp at hn ⊢<;>omega
   obtain⟨c1,c2⟩:=DX d
   refine⟨S,a1,by rw[a2,c2],fun K=>?_⟩
   rw[OR];unfold f8
   rw[d6,d6,f,cf,h_,h_,a3,ct,d6,Ri,c1,c2]
  ·obtain⟨S,a1,a2,a3⟩:=zp (R:=R) (N:=N) (a:=s2.l) (b:=s1.l) (t:=false) (o:=o2) (t':=false) (o':=o1) rfl rfl q n (s.le (by omega)) (by omega)
   have d:K5 n1 s1+K5 n2 s2=if n2 then -((val s2.l - val s1.l:Nat):Int)else((val s2.l - val s1.l:Nat):Int):=by
    unfold K5;cases n1<;>cases n2<;>simp at hn ⊢<;>omega
   obtain⟨c1,c2⟩:=DX d
   refine⟨S,a1,by rw[a2,c2],fun K=>?_⟩
   rw[OR];unfold f8
   rw[d6,d6,f,cf,h_,h_,Akj rfl rfl n q (s.le (by omega)) (by omega),cf,h_,h_,a3,d6,Ri,c1,c2]
def n_(x y:Int):Int:=if x<y then -1 else if y<x then 1 else 0
def Akr(z:Int)(d:Nat)(n:d≠0):(mkRat z d).num.natAbs=z.natAbs/Nat.gcd z.natAbs d/\((mkRat z d).num<0↔z<0)/\(mkRat z d).den=d/Nat.gcd z.natAbs d:=by
 have s:0<Nat.gcd z.natAbs d:=Ayc _ (by omega)
 rw[Rat.num_mkRat,Rat.den_mkRat,if_neg n,if_neg n,Ayp d]
 have f:((Nat.gcd z.natAbs d:Nat):Int)∣z:=Int.dvd_natAbs.1 (Int.natCast_dvd_natCast.2 (Ayi _ _))
 obtain⟨c,q⟩:=f
 have t:z.natAbs.gcd d=Nat.gcd z.natAbs d:=rfl
 generalize Nat.gcd z.natAbs d=g at *
 refine⟨?_,?_,rfl⟩
 ·rw[q,Aya _ (by omega),Int.natAbs_mul,Awr,Nat.mul_div_cancel_left _ s]
 ·rw[q,Aya _ (by omega)]
  constructor
  ·intro h;exact Int.mul_neg_of_pos_of_neg (by omega) h
  ·intro h;rcases Int.lt_or_le c 0 with l|l
   ·exact l
   ·have:=Int.mul_nonneg (show(0:Int)<=g by omega) l;omega
structure RatD where
 neg:Bool
 ns:LS
 ds:LS
def RatD.av(x:RatD):LA:=[.bool x.neg,x.ns.av,x.ds.av]
def RatD.ok(x:RatD):Prop:=Ax x.ns.l/\Ax x.ds.l
def RatD.m(x:RatD):Nat:=max x.ns.l.length x.ds.l.length
def RatD.q(x:RatD):Rat:=mkRat (K5 x.neg x.ns) (val x.ds.l)
def RatD.can(x:RatD)(q:Rat):Prop:=x.neg=decide (q.num<0)/\x.ns.l=Bb q.num.natAbs/\x.ds.l=Bb q.den
def qm(q:Rat):Nat:=max (Bb q.num.natAbs).length (Bb q.den).length
def RatD.can.ok{x:RatD}{q:Rat}(h:x.can q):x.ok:=⟨by rw[h.2.1];exact A2 _,by rw[h.2.2];exact A2 _⟩
def RatD.can.m{x:RatD}{q:Rat}(h:x.can q):x.m=qm q:=by unfold RatD.m qm;rw[h.2.1,h.2.2]
def RatD.can.q{x:RatD}{q:Rat}(h:x.can q):x.q=q:=by
 unfold RatD.q K5
 rw[h.1,h.2.1,h.2.2,A5,A5]
 have:(if decide (q.num<0)=true then -(q.num.natAbs:Int)else(q.num.natAbs:Int))=q.num:=by
  by_cases d:q.num<0
  ·rw[if_pos (by simpa using d)];omega
  ·rw[if_neg (by simpa using d)];omega
 rw[this,Rat.mkRat_self]
def Apb{x:RatD}{f:Bool->O R}:HF x.av f=f x.neg:=Aog
def Apc{x:RatD}{f:LA->Nat->O R}:By 1 (drop 1 x.av) f=f (Au x.ns.l) x.ns.l.length:=by rw[RatD.av,Avm,Au0,Adj]
def Adk{x:RatD}{f:LA->Nat->O R}:By 1 (drop 2 x.av) f=f (Au x.ds.l) x.ds.l.length:=by rw[RatD.av,Avm,Avm,Au0,Adj]
def tJ(x:RatD):ble 3 (List.length x.av)=true:=rfl
def bO(x:RatD):take 3 x.av=x.av:=rfl
def Aqo(x:RatD):take 2 x.av=AN x.neg x.ns:=rfl
def Asv(x:RatD):((beq 0 0)&&((beq (List.length x.av) 3)&&(beq 3 3)))=true:=rfl
def Asw(x:RatD):beq (List.length x.av) 3=true:=rfl
def Aoh(n:Bool)(s:LS):((beq 0 0)&&((beq (List.length (AN n s)) 2)&&(beq 2 2)))=true:=rfl
def Aks(n:Bool)(s:LS):ble 2 (List.length (AN n s))=true:=rfl
def Aqp(n:Bool)(s:LS):take 2 (AN n s)=AN n s:=rfl
def Ahn:Ax [1]:=by intro x hx;simp at hx;omega
def T1:Bb 1=[1]:=by rw[CY (by omega)];simp[Gd]
def Jf{v:Nat}{S:List Nat}(d:Ax S)(f:val S=v):take ((Bb v).length*1) (Au S)=Au (Bb v):=by rw[<-f,Agp d]
def Am5(neg:Bool)(l:List Nat)(t o:Bool):([.bool neg,.imm (Au l) l.length 1 t o]:LA)=AN neg (.of l t o):=rfl
def Am6{z:Int}{t o:Bool}:K5 (decide (z<0)) (.of (Bb z.natAbs) t o)=z:=by
 unfold K5 LS.l;rw[A5]
 by_cases h:z<0
 ·rw[if_pos (by simpa using h)];omega
 ·rw[if_neg (by simpa using h)];omega
def bR{N:Nat}{v:Int}(f:-9223372036854775808<=v/\v<=9223372036854775807)(hN:4<=N):∃ d:RatD,d.can (v:Rat)/\∀ K:LA->O R,OS N v K=K d.av:=by
 obtain⟨S,s1,s2,l⟩:=Tg (R:=R) (N:=N) f hN
 refine⟨⟨decide (v<0),.of (Bb v.natAbs) false false,.of (Bb 1) false false⟩,⟨rfl,rfl,rfl⟩,fun K=>?_⟩
 rw[UJ];unfold UI
 rw[l,Jf s1 s2,T1];rfl
def Adl{N:Nat}{x:RatD}{o:Bool}(hx:x.ok)(t:fit x.m N):∃(neg:Bool)(s:LS)(l:List Nat)(o1 o2:Bool),Ax s.l/\Ax l/\val l≠0/\s.l.length<=x.m/\l.length<=max x.m 1/\mkRat (K5 neg s) (val l)=x.q/\∀ K:LA->Bool->LA->Nat->Bool->O R,fa N x.av o K=K (AN neg s) o1 (Au l) l.length o2:=by
 have f:x.ns.l.length<=x.m:=Ayr _ _
 have d:x.ds.l.length<=x.m:=Nat.le_max_right _ _
 by_cases n:val x.ds.l=0
 ·refine⟨false,.nil,[1],false,false,LR,Ahn,by decide,by simp[LS.l],by simp;omega,?_,fun K=>?_⟩
  ·unfold RatD.q;rw[n];simp[K5,LS.l,val]
  ·rw[OU];unfold XU
   rw[Adk,rQ rfl hx.2 (t.le d),n,MS];rfl
 ·refine⟨x.neg,x.ns,x.ds.l,o,o,hx.1,hx.2,n,f,by omega,rfl,fun K=>?_⟩
  have:U3 (val x.ds.l) 0=1:=by unfold U3;rw[if_neg (by omega),if_pos (by omega)]
  rw[OU];unfold XU
  rw[Adk,rQ rfl hx.2 (t.le d),this,show((1:Int)==0)=false by rfl,cf,show ble 2 (List.length x.av)=true by rfl,ct,Adk,Aqo,Aoh,ct,Aks,ct,Aqp]
def Aqq(z:Int)(d:Nat)(l:d≠0):(mkRat z d).num.sign=z.sign:=by
 obtain⟨q,n,_⟩:=Akr z d l
 rcases Ax5 z 0 with h|h|h
 ·rw[Avp h,Avp (n.2 h)]
 ·subst h;simp
 ·have hn:¬ (mkRat z d).num<0:=fun f=>by have:=n.1 f;omega
  have s:(mkRat z d).num≠0:=fun f=>by
   have:mkRat z d=0:=Rat.num_eq_zero.1 f
   rw[Rat.mkRat_eq_zero l]at this;omega
  rw[Av1 h,Av1 (by omega)]
def rV{N:Nat}{x:RatD}{o:Bool}{K:Int->O R}(hx:x.ok)(d:fit x.m N):fb N x.av o K=K x.q.num.sign:=by
 obtain⟨neg,s,l,o1,o2,f,y,n,t,z,u,v⟩:=Adl (R:=R) (o:=o) hx d
 rw[lI];unfold qG
 rw[tJ,ct,bO,v,Aoh,ct,Aks,ct,Aqp,rU f (d.le t),<-u,Aqq _ _ n]
def u7{N:Nat}{a b c:Nat}{s:Int}(hN:4<=N)(z:a<18446744073709551616)(T:b<9223372036854775808)(A:0<c)(C:c∣a):∀(k fuel x y:Nat),k<fuel->x*y<2 ^ k->y<=x->Nat.gcd x y=c->∃ d:RatD,d.neg=decide (s<0)/\d.ns.l=Bb (a/c)/\d.ds.l=Bb (b/c)/\∀ K:LA->O R,Dz N K s (b:Int) (a:Int) fuel (x:Int) (y:Int)=K d.av:=by
 have base:∀(fuel:Nat),∃ d:RatD,d.neg=decide (s<0)/\d.ns.l=Bb (a/c)/\d.ds.l=Bb (b/c)/\∀ K:LA->O R,Dz N K s (b:Int) (a:Int) (fuel+1) (c:Int) ((0:Nat):Int)=K d.av:=by
  intro fuel
  have u:a/c<18446744073709551616:=Awk (Axe _ _) z
  have v:b/c<18446744073709551616:=Awk (Axe _ _) (by omega)
  obtain⟨S1,s1,s2,D⟩:=dY (R:=R) (N:=N) u hN
  obtain⟨S2,t1,t2,t3⟩:=dY (R:=R) (N:=N) v hN
  refine⟨⟨decide (s<0),.of (Bb (a/c)) false false,.of (Bb (b/c)) false false⟩,rfl,rfl,rfl,fun K=>?_⟩
  rw[Dz];unfold Ot
  rw[show(((0:Nat):Int) != 0)=false by rfl,cf,Ahf (by omega),cf,zq,JX u,D,cf,JX (show b<18446744073709551616 by omega),zq,JX v,t3,Jf s1 s2,Jf t1 t2];rfl
 intro k
 induction k with
| zero =>
  intro fuel x y G f q n
  obtain⟨fuel,rfl⟩:∃ F,fuel=F+1:=⟨fuel - 1,by omega⟩
  have I:y=0:=by
   rcases Avv y with h|h
   ·exact h
   ·have U:=Aw1 x (show 1<=y by omega)
    rw[Ayq]at f;omega
  subst I
  rw[Azi]at n;subst n
  exact base fuel
| succ k M =>
  intro fuel x y G f q n
  obtain⟨fuel,rfl⟩:∃ F,fuel=F+1:=⟨fuel - 1,by omega⟩
  rcases Avv y with h|h
  ·subst h;rw[Azi]at n;subst n;exact base fuel
  ·have V:=Akp (show 1<=y by omega) q
   have X:=Aw0 x h
   have t:Nat.gcd y (x%y)=Nat.gcd x y:=by rw[Ayp,<-Nat.gcd_rec,Ayp]
   obtain⟨d,S,d2,d3,d4⟩:=M fuel y (x%y) (by omega) (by rw[Au7]at f;omega) (by omega) (by rw[t,n])
   refine⟨d,S,d2,d3,fun K=>?_⟩
   rw[Dz];unfold Ot
   rw[show((y:Int) != 0)=true by rw[bne_iff_ne];omega,ct,Ahf (by omega),cf,zr]
   exact d4 K
def tK{N:Nat}{s:Int}{b:Nat}(hs:-9223372036854775808<=s/\s<=9223372036854775807)(t:0<b)(x:b<9223372036854775808)(hN:1000<=N):∃ d:RatD,d.can (mkRat s b)/\∀ K:LA->O R,Uv N s (b:Int) K=K d.av:=by
 obtain⟨m1,m2,m3⟩:=Akr s b (by omega)
 have f:∀ d:RatD,d.neg=decide (s<0)->d.ns.l=Bb (s.natAbs/Nat.gcd s.natAbs b)->d.ds.l=Bb (b/Nat.gcd s.natAbs b)->d.can (mkRat s b):=by
  intro d y z A
  exact⟨by rw[y];congr 1;exact propext m2.symm,by rw[z,m1],by rw[A,m3]⟩
 have q:s.natAbs<18446744073709551616:=by omega
 have start:∀ K:LA->O R,Uv N s (b:Int) K=Dz N K s (b:Int) (s.natAbs:Int) N (b:Int) (s.natAbs:Int):=by
  intro K
  rw[RS];unfold DF V7 BD
  dsimp only
  by_cases h:s<0
  ·have e:wrap .u64 ((0:Int) - wrap .u64 s)=(s.natAbs:Int):=by rw[fP,fP];omega
   rw[decide_eq_true h,ct,e,JX (by omega)]
  ·have e:wrap .u64 s=(s.natAbs:Int):=by rw[fP];omega
   rw[decide_eq_false h,cf,e,JX (by omega)]
 have n:0<Nat.gcd s.natAbs b:=Ayc _ t
 by_cases u:s.natAbs<=b
 ·obtain⟨d,v,d2,d3,d4⟩:=u7 (R:=R) (N:=N) (a:=s.natAbs) (b:=b) (c:=Nat.gcd s.natAbs b) (s:=s) (by omega) q x n (Ayi _ _) 128 N b s.natAbs (by omega) (by
   have:=Ayk (show b<18446744073709551616 by omega) q;exact this) u (Ayp _ _)
  exact⟨d,f d v d2 d3,fun K=>by rw[start,d4]⟩
 ·obtain⟨F,hF⟩:∃ F,N=F+1:=⟨N - 1,by omega⟩
  obtain⟨d,v,d2,d3,d4⟩:=u7 (R:=R) (N:=N) (a:=s.natAbs) (b:=b) (c:=Nat.gcd s.natAbs b) (s:=s) (by omega) q x n (Ayi _ _) 128 F s.natAbs (b%s.natAbs) (by omega) (by
   rw[Avg (by omega)]
   have:=Ayk q (show b<18446744073709551616 by omega);exact this) (by rw[Avg (by omega)];omega) (by rw[Avg (by omega)])
  refine⟨d,f d v d2 d3,fun K=>?_⟩
  rw[start,<-d4 K]
  conv=>lhs;rw[show(Dz N K s (b:Int) (s.natAbs:Int) N)=Dz N K s (b:Int) (s.natAbs:Int) (F+1) by rw[<-hF]]
  rw[Dz];unfold Ot
  rw[show((s.natAbs:Int) != 0)=true by rw[bne_iff_ne];omega,ct,Ahf (by omega),cf,zr]
def zu{N:Nat}{a b:Int}{K:Int->O R}:Tq N a b K=K (n_ a b):=by
 rw[BT];unfold Xo
 simp only[IC];unfold FM
 rw[show(a != a)=false by simp,show(b != b)=false by simp]
 dsimp only
 rw[cf,cf]
 unfold n_
 by_cases h:a<b
 ·rw[decide_eq_true h,ct,if_pos h]
 ·rw[decide_eq_false h,cf,if_neg h]
  by_cases d:b<a
  ·rw[decide_eq_true (show a>b from d),ct,if_pos d]
  ·rw[decide_eq_false (show ¬ a>b from d),cf,if_neg d]
def tL{N:Nat}{a b:Int}{K:Int->O R}:P0 N a b K=K (n_ a b):=by
 rw[Ww];unfold Uc
 simp only[B'];unfold Xr
 rw[show(a != a)=false by simp,show(b != b)=false by simp]
 dsimp only
 rw[cf,cf]
 unfold n_
 by_cases h:a<b
 ·rw[decide_eq_true h,ct,if_pos h]
 ·rw[decide_eq_false h,cf,if_neg h]
  by_cases d:b<a
  ·rw[decide_eq_true (show a>b from d),ct,if_pos d]
  ·rw[decide_eq_false (show ¬ a>b from d),cf,if_neg d]
def Akt{k l:Nat}(h:k<=l):4294967296 ^ k<=4294967296 ^ l:=Avb (by omega) h
def Apd{v k:Nat}(h:(Bb v).length<=k):v<4294967296 ^ k:=by
 have:=Nl (A2 v);rw[A5]at this
 exact Av3 this (Akt h)
def Th(z:Int):LA:=AN (decide (z<0)) (.of (Bb z.natAbs) false false)
def Aku(z:Int)(K:LA->O R):(cond ((beq 0 0)&&((beq (List.length (Th z)) 2)&&(beq 2 2))) (cond (ble 2 (List.length (Th z))) (K (take 2 (Th z))) none) none)=K (Th z):=rfl
def Asx(z w:Int):setCells (Th z) 0 (Th w)=Th w:=rfl
def Atk(z:Int):take 2 (Th z)=Th z:=rfl
def Aqr(z:Int):ble 2 (List.length (Th z))=true:=rfl
def Aqs(z:Int):beq (List.length (Th z)) 2=true:=rfl
def Ap6(v:Nat):take ((Bb v).length*1) (Au (Bb v))=Au (Bb v):=Jf (A2 _) (A5 v)
def d7{N:Nat}{neg:Bool}{l:List Nat}{n:Nat}{t o:Bool}{K:LA->O R}(hn:n=l.length)(d:Ax l)(f:fit l.length N):LW N neg (Au l) n t o K=K (Th (if neg then -(val l:Int)else(val l:Int))):=by
 obtain⟨c1,c2⟩:=DX (z:=if neg then -(val l:Int)else(val l:Int)) (c:=neg) (m:=val l) rfl
 rw[fQ];unfold jA
 rw[Gu hn d f,Ap6]
 unfold Th
 rw[<-c1,c2]
 cases neg
 ·rfl
 ·rw[show((true:Bool)==true)=true by rfl,ct,Aov];simp[AN,LS.av]
def tM{N:Nat}{v:Int}{K:LA->O R}(f:-9223372036854775808<=v/\v<=9223372036854775807)(hN:2000<=N):Zt N v K=K (Th v):=by
 have d:v.natAbs<18446744073709551616:=by omega
 have l:=YF d
 rw[RK];unfold OK
 by_cases h:v<0
 ·have e:wrap .u64 (wrap .u64 (wrap .i64 ((0:Int) - wrap .i64 (v+1)))+1)=(v.natAbs:Int):=by
   rw[i64 (a:=v+1) (by omega),i64 (by omega),fP,fP];omega
  rw[decide_eq_true h,ct,e,JH d (by omega),Ap6,d7 rfl (A2 _) ⟨by omega,by omega⟩,A5]
  have:(if true=true then -(v.natAbs:Int)else(v.natAbs:Int))=v:=by rw[if_pos rfl];omega
  rw[this];exact Aku _ _
 ·have e:wrap .u64 v=(v.natAbs:Int):=by rw[fP];omega
  rw[decide_eq_false h,cf,e,JH d (by omega),Ap6,d7 rfl (A2 _) ⟨by omega,by omega⟩,A5]
  have:(if false=true then -(v.natAbs:Int)else(v.natAbs:Int))=v:=by rw[if_neg (by decide)];omega
  rw[this];exact Aku _ _
def Adm{N:Nat}{n:Bool}{s:LS}{o:Bool}{K:LA->O R}(hs:Ax s.l)(d:fit s.l.length N):fR N (AN n s) o K=K (Th (K5 n s)):=by
 rw[fS];unfold jB
 rw[d6,h_,d7 rfl hs d];exact Aku _ _
end
end Gx
namespace Gx
open Go
def Dp(c:UInt8):Bool:=decide (48<=c.toNat)&&decide (c.toNat<=57)
def Jl(s:Lu):Nat:=s.foldl (fun a c=>10*a+(c.toNat - 48)) 0
def zw(s:Lu):Bool:=s.all Dp&&!s.isEmpty
def So(s:Lu):Bool:=zw s&&(s==[48]||s.head? != some 48)
abbrev dec:=Lib.decDigits
def Aho(s:Lu):∀ a,s.foldl (fun a c=>10*a+(c.toNat - 48)) a=a*10 ^ s.length+Jl s:=by
 unfold Jl
 induction s with
|nil=>intro a;simp
|cons c r d =>
  intro a
  rw[Awx,Awx,d,d (10*0+_),Aub,Au7,Av5,Av5]
  have:10*a*10 ^ r.length=a*(10 ^ r.length*10):=by rw[Av6 10 a,Avu,Av6 10]
  rw[this];omega
def WH(a b:Lu):Jl (a++b)=Jl a*10 ^ b.length+Jl b:=by
 have:=Aho b (Jl a)
 unfold Jl at *
 rw[List.foldl_append];exact this
def Ahp(a:Lu)(c:UInt8):Jl (a++[c])=10*Jl a+(c.toNat - 48):=by rw[WH];simp[Jl];omega
def jq(c:UInt8)(r:Lu):Jl (c::r)=(c.toNat - 48)*10 ^ r.length+Jl r:=by
 have:=WH [c] r
 simpa[Jl]using this
def xT{s:Lu}(h:s.all Dp=true):Jl s<10 ^ s.length:=by
 induction s with
|nil=>simp[Jl]
|cons c r d =>
  simp only[Au5,Auh]at h
  have f:=d h.2
  have l:c.toNat<=57:=by have:=h.1;simp[Dp]at this;omega
  rw[jq,Aub,Au7]
  have:(c.toNat - 48)*10 ^ r.length<=9*10 ^ r.length:=Au8 _ (by omega)
  omega
def U1{u:Nat}(h:u<10):dec u=[UInt8.ofNat (48+u)]:=by rw[dec,Lib.decDigits,dif_pos h]
def QK{u:Nat}(h:10<=u):dec u=dec (u/10)++[UInt8.ofNat (48+u%10)]:=by rw[dec,Lib.decDigits,dif_neg (by omega)]
def YG{k:Nat}(h:k<10):Dp (UInt8.ofNat (48+k))=true/\(UInt8.ofNat (48+k)).toNat=48+k:=by
 have:(UInt8.ofNat (48+k)).toNat=48+k:=by simp;omega
 exact⟨by simp[Dp,this];omega,this⟩
def MU:∀ u,(dec u).all Dp=true:=by
 intro u
 induction u using Nat.strongRecOn with
| ind u d =>
  by_cases h:u<10
  ·rw[U1 h];simpa using(YG h).1
  ·rw[QK (by omega),List.all_append,d (u/10) (by omega)]
   simpa using(YG (k:=u%10) (by omega)).1
def d8(u:Nat):dec u≠[]:=by
 by_cases h:u<10
 ·rw[U1 h];simp
 ·rw[QK (by omega)];simp
def WI:∀ u,Jl (dec u)=u:=by
 intro u
 induction u using Nat.strongRecOn with
|ind u d =>
  by_cases h:u<10
  ·rw[U1 h];simp only[Jl,Awx,List.foldl_nil,(YG h).2];omega
  ·rw[QK (by omega),Ahp,d (u/10) (by omega),(YG (k:=u%10) (by omega)).2];omega
def zx:∀ u,0<u->(dec u).head?≠some 48:=by
 intro u
 induction u using Nat.strongRecOn with
| ind u f =>
  intro l
  by_cases h:u<10
  ·rw[U1 h]
   intro e
   simp at e
   have:=congrArg UInt8.toNat e
   simp at this;omega
  ·rw[QK (by omega)]
   have:=f (u/10) (by omega) (by omega)
   cases d:dec (u/10)with
   |nil=>exact absurd d (d8 _)
   |cons c r=>rw[d]at this;simpa using this
def jr(u:Nat):So (dec u)=true:=by
 have d:=MU u
 have f:=d8 u
 rcases Avv u with h|h
 ·subst h;rw[U1 (by omega)];decide
 ·have l:=zx u h
  simp only[So,zw,d,Avi,Auh,Axv,bne_iff_ne]
  refine⟨?_,.inr l⟩
  cases n:dec u with
  |nil=>exact absurd n f
  |cons c r=>rfl
def Am7{u k:Nat}(x:0<k):(dec u).length<=k↔u<10 ^ k:=by
 constructor
 ·intro h
  have:=xT (MU u)
  rw[WI]at this
  exact Av3 this (Avb (by omega) h)
 ·intro h
  apply Classical.byContradiction
  intro hn
  have d:k<(dec u).length:=by omega
  have q:0<u:=by
   rcases Avv u with e|e
   ·subst e;rw[U1 (by omega)]at d;simp at d;omega
   ·exact e
  have n:=zx u q
  cases f:dec u with
  |nil=>exact d8 u f
  | cons c r =>
   rw[f]at n d
   have s:Dp c=true:=by have:=MU u;rw[f]at this;simp at this;exact this.1
   have l:c≠48:=by simpa using n
   have t:1<=c.toNat - 48:=by
    simp[Dp]at s
    have:c.toNat≠48:=fun e=>l (Ays.1 (by simpa using e))
    omega
   have v:=WI u
   rw[f,jq]at v
   simp at d
   have y:10 ^ k<=10 ^ r.length:=Avb (by omega) (by omega)
   have z:1*10 ^ r.length<=(c.toNat - 48)*10 ^ r.length:=Au8 _ t
   omega
end Gx
namespace Gx
open Go Go.Proofs
section
variable{R:Type}
def Adn{v:Int}(h:v.natAbs<18446744073709551616):qm (v:Rat)<=2:=by
 unfold qm;rw[Avh,Awe,T1]
 have:=YF h
 simp;omega
def u9{N:Nat}{n1:Bool}{s1:LS}{o1:Bool}{K:Bool->Nat->LA->O R}(d:Ax s1.l)(f:fit s1.l.length N):jI N (AN n1 s1) o1 K=K (decide (-K5 n1 s1<0)) (Bb (K5 n1 s1).natAbs).length (Au (Bb (K5 n1 s1).natAbs)):=by
 obtain⟨c1,c2⟩:=DX (z:=-K5 n1 s1) (c:=!n1) (m:=val s1.l) (by unfold K5;cases n1<;>simp)
 rw[qD];unfold wK
 rw[d6,h_,Ahh rfl d f,Ri,c1,mJ]
def At4(z:Int):((beq 0 0)&&((beq (List.length (Th z)) 2)&&(beq 2 2)))=true:=rfl
def Asy(z:Int):((beq (List.length (Th z)) 2)&&(true&&(!false)))=true:=rfl
def Asz(z:Int)(f:Bool->O R):HF (Th z) f=f (decide (z<0)):=d6
def Aq9(z:Int)(f:LA->Nat->O R):By 1 (drop 1 (Th z)) f=f (Au (Bb z.natAbs)) (Bb z.natAbs).length:=h_
def Akv(v:Nat):Th (v:Int)=AN false (.of (Bb v) false false):=by unfold Th;rw[decide_eq_false (by omega),Awr]
def Aoi(z:Int):Th z=AN (decide (z<0)) (.of (Bb z.natAbs) false false):=rfl
def bS{N:Nat}{b:Lu}{c:UInt8}{K:Lu->Bool->O R}:Fv N (c::b) [c] K=K b true:=by
 rw[Pd];unfold N4
 rw[Ex];unfold Du
 rw[Ew];unfold Dt
 have d:((decide ((((c::b).length:Nat):Int)>=((([c]:Lu).length:Nat):Int)))==true)=true:=by simp;omega
 have f:((decide ((0:Int)<=(0:Int)))&&((decide ((0:Int)<=((([c]:Lu).length:Nat):Int)))&&((decide (((([c]:Lu).length:Nat):Int)<=(((c::b).length:Nat):Int)))&&(decide ((((c::b).length:Nat):Int)<=(((c::b).length:Nat):Int))))))=true:=by simp;omega
 have l:((decide ((0:Int)<=((([c]:Lu).length:Nat):Int)))&&((decide (((([c]:Lu).length:Nat):Int)<=(((c::b).length:Nat):Int)))&&((decide ((((c::b).length:Nat):Int)<=(((c::b).length:Nat):Int)))&&(decide ((((c::b).length:Nat):Int)<=(((c::b).length:Nat):Int))))))=true:=by simp;omega
 rw[d,ct,f,ct,show cond true ((take ([c]:Lu).length (c::b))==[c]) false=true by simp]
 dsimp only
 rw[show(!true)=false by rfl,cf,l,ct]
 simp
def WJ{N:Nat}{b:Lu}{c:UInt8}{K:Lu->Bool->O R}(h:b.head?≠some c):Fv N b [c] K=K b false:=by
 rw[Pd];unfold N4
 rw[Ex];unfold Du
 rw[Ew];unfold Dt
 cases b with
|nil=>rfl
|cons d r =>
  have f:d≠c:=by simpa using h
  have l:((decide ((((d::r).length:Nat):Int)>=((([c]:Lu).length:Nat):Int)))==true)=true:=by simp;omega
  have n:((decide ((0:Int)<=(0:Int)))&&((decide ((0:Int)<=((([c]:Lu).length:Nat):Int)))&&((decide (((([c]:Lu).length:Nat):Int)<=(((d::r).length:Nat):Int)))&&(decide ((((d::r).length:Nat):Int)<=(((d::r).length:Nat):Int))))))=true:=by simp;omega
  rw[l,ct,n,ct,show cond true ((take ([c]:Lu).length (d::r))==[c]) false=false by simp[f]]
  rfl
def d9{s:Lu}{p:Nat}(h:p<s.length)(d:s[p].toNat<128):AU s (p:Int)=(s[p].toNat,1):=by
 unfold AU
 rw[Auf]
 exact decode_ascii ⟨⟨s⟩⟩ p h d
def Ahq{s:Lu}{p:Nat}(h:p<s.length)(d:128<=s[p].toNat):128<=(AU s (p:Int)).1:=by
 unfold AU
 rw[Auf]
 exact(decode_high ⟨⟨s⟩⟩ p h d).1
def tN{N:Nat}{s:Lu}{K:Bool->O R}(hs:s≠[]):∀(m p fuel:Nat),p<=s.length->s.length - p=m->m<fuel->I7 N K s fuel (p:Int)=K ((s.drop p).all Dp):=by
 intro m
 induction m with
| zero =>
  intro p fuel f l n
  cases fuel with
  |zero=>omega
  |succ fuel =>
   rw[I7];unfold Ts
   rw[Jr (by omega),cf,Av8 (by omega),show(!(s==([]:Lu)))=true by simp[hs]]
   rfl
| succ m q =>
  intro p fuel f l n
  cases fuel with
  |zero=>omega
  | succ fuel =>
   have d:p<s.length:=by omega
   rw[I7];unfold Ts
   rw[Ig d,ct,Au6 d,Au5]
   by_cases t:s[p].toNat<128
   ·rw[d9 d t]
    simp only
    by_cases u:s[p].toNat<48
    ·rw[show(decide (((s[p].toNat:Nat):Int)<48)==false)=false by simp;omega,cf]
     have:Dp s[p]=false:=by simp[Dp];omega
     rw[this];rfl
    ·rw[show(decide (((s[p].toNat:Nat):Int)<48)==false)=true by simp;omega,ct]
     by_cases v:s[p].toNat>57
     ·rw[show cond false true (decide (((s[p].toNat:Nat):Int)>57))=true by simp;omega,ct]
      have:Dp s[p]=false:=by simp[Dp];omega
      rw[this];rfl
     ·rw[show cond false true (decide (((s[p].toNat:Nat):Int)>57))=false by simp;omega,cf]
      have:Dp s[p]=true:=by simp[Dp];omega
      rw[this,Avi,show((p:Int)+((1:Nat):Int))=((p+1:Nat):Int) by omega]
      exact q (p+1) fuel (by omega) (by omega) (by omega)
   ·have x:=Ahq d (by omega)
    have:Dp s[p]=false:=by simp[Dp];omega
    rw[this,show(decide ((((AU s (p:Int)).1:Nat):Int)<48)==false)=true by simp;omega,ct,show cond false true (decide ((((AU s (p:Int)).1:Nat):Int)>57))=true by simp;omega,ct]
    rfl
def tO{N:Nat}{s:Lu}{K:Bool->O R}(d:s.length<N):Uw N s K=K (zw s):=by
 rw[RT];unfold DG
 cases s with
|nil =>
  obtain⟨n,rfl⟩:∃ n,N=n+1:=⟨N - 1,by simp at d;omega⟩
  rfl
|cons c r =>
  have:=tN (R:=R) (N:=N) (s:=c::r) (K:=K) (by simp) (c::r).length 0 N (by omega) (by omega) d
  refine Axg this ?_
  congr 1
  simp[zw]
def iA{N:Nat}{s:Lu}{K:Bool->O R}(n:s.length<N):Xt N s K=K (So s):=by
 rw[VD];unfold VC
 rw[tO n]
 by_cases d:zw s=true
 ·rw[d,show(true==true)=true by rfl,ct]
  unfold So
  rw[d,Avi]
  by_cases l:s=[48]
  ·subst l;rfl
  ·have q:(s==[48])=false:=by simpa using l
   rw[q,show(false==false)=true by rfl,ct,Avw]
   cases s with
   |nil=>simp[zw]at d
   | cons c r =>
    rw[show Ai 0 (c::r).length=true by unfold Ai;simp,ct]
    congr 1
    simp only[cond_true,cond_false,List.getD_cons_zero,List.head?_cons]
    by_cases f:c=48
    ·subst f;rfl
    ·have:((c.toNat:Int) != 48)=true:=by
      rw[bne_iff_ne];intro e
      apply f;apply Ays.1
      have:c.toNat=48:=by omega
      rw[this];rfl
     rw[this]
     have t:((some c:Option UInt8) != some 48)=true:=by rw[bne_iff_ne];simpa using f
     rw[t]
 ·have d:zw s=false:=by simpa using d
  rw[d,show(false==true)=false by rfl,cf]
  unfold So
  rw[d];rfl
def SP(s:Lu):Bool:=match s with
|45::r=>So r&&!(r==[48])
|s=>So s
def KO{N:Nat}{s:Lu}{K:Bool->O R}(d:s.length<N):Ux N s K=K (SP s):=by
 rw[RU];unfold PO
 by_cases h:s.head?=some 45
 ·obtain⟨r,rfl⟩:∃ r,s=45::r:=by
   cases s with
   |nil=>simp at h
   |cons c r=>simp at h;exact⟨r,by rw[h]⟩
  rw[bS,iA (by simp at d;omega)]
  show _=K (So r&&!(r==[48]))
  cases So r
  ·rfl
  ·rw[Avi];cases r==[48]<;>rfl
 ·rw[WJ h,iA d]
  have:SP s=So s:=by
   unfold SP
   split
   ·simp at h
   ·rfl
  rw[this]
  cases So s<;>rfl
def rW(s:Lu):Nat:=s.countP Dp
def xU{N:Nat}{s:Lu}{K:Bool->O R}(hs:∀ c∈s,c.toNat<128)(x:s.length<=1000000000000):∀(m p d fuel:Nat),p<=s.length->s.length - p=m->m<fuel->d<=p->Lt N K s fuel (d:Int) (p:Int)=K (decide (4096<d+rW (s.drop p))):=by
 intro m
 induction m with
| zero =>
  intro p d fuel n q t u
  cases fuel with
  |zero=>omega
  |succ fuel =>
   rw[Lt];unfold V9
   rw[Jr (by omega),cf,Av8 (by omega)]
   congr 1
   rw[decide_eq_decide];simp[rW];omega
| succ m l =>
  intro p d fuel n q t u
  cases fuel with
  |zero=>omega
  | succ fuel =>
   have f:p<s.length:=by omega
   have v:s[p].toNat<128:=hs _ (Aur f)
   rw[Lt];unfold V9
   rw[Ig f,ct,Au6 f,d9 f v]
   simp only
   rw[show((p:Int)+((1:Nat):Int))=((p+1:Nat):Int) by omega]
   have hn:rW (s[p]::s.drop (p+1))=rW (s.drop (p+1))+(if Dp s[p]then 1 else 0):=by unfold rW;rw[List.countP_cons]
   rw[hn]
   by_cases y:48<=s[p].toNat
   ·rw[show(decide (((s[p].toNat:Nat):Int)>=48)==true)=true by simp;omega,ct]
    by_cases z:s[p].toNat<=57
    ·rw[show cond true (decide (((s[p].toNat:Nat):Int)<=57)) false=true by simp;omega,ct,wS (by omega),l (p+1) (d+1) fuel (by omega) (by omega) (by omega) (by omega)]
     have:Dp s[p]=true:=by simp[Dp];omega
     rw[this,if_pos rfl]
     congr 1;rw[decide_eq_decide];omega
    ·rw[show cond true (decide (((s[p].toNat:Nat):Int)<=57)) false=false by simp;omega,cf,l (p+1) d fuel (by omega) (by omega) (by omega) (by omega)]
     have:Dp s[p]=false:=by simp[Dp];omega
     rw[this];rfl
   ·rw[show(decide (((s[p].toNat:Nat):Int)>=48)==true)=false by simp;omega,cf,l (p+1) d fuel (by omega) (by omega) (by omega) (by omega)]
    have:Dp s[p]=false:=by simp[Dp];omega
    rw[this];rfl
def iB{N:Nat}{s:Lu}{K:Bool->O R}(hs:∀ c∈s,c.toNat<128)(d:s.length<=1000000000000)(f:s.length<N):Xu N s K=K (decide (4096<rW s)):=by
 rw[VE];unfold IR
 have:=xU (R:=R) (N:=N) (K:=K) hs d s.length 0 0 N (by omega) (by omega) f (by omega)
 simpa using this
def Akw(m:Nat):(Int.tmod (m:Int) 2==1)=decide (m%2=1):=by
 rw[show Int.tmod (m:Int) 2=((m%2:Nat):Int) by rfl]
 rw[Bool.eq_iff_iff];simp;omega
def Akx{m:Nat}(h:m<=1000000000000):wrap .i64 (Int.tdiv (m:Int) 2)=((m/2:Nat):Int):=by rw[show Int.tdiv (m:Int) 2=((m/2:Nat):Int) by rfl,i64 (by omega)]
def Ae7(n:Bool)(s:LS)(x y:AV):Ga (AN n s) 0 [x,y]=[x,y]:=rfl
def Ap7(s:LS):K5 false s=(val s.l:Int):=rfl
def Aky{N:Nat}{s1 s2:LS}{o1 o2:Bool}(d:Ax s1.l)(f:Ax s2.l)(n:fit (s1.l.length+s2.l.length) N):∃ S,Ax S/\val S=val s1.l*val s2.l/\∀ K:Bool->Nat->LA->O R,UH N (AN false s1) o1 (AN false s2) o2 K=K false (Bb (val s1.l*val s2.l)).length (Au S):=by
 obtain⟨S,a1,a2,a3⟩:=Ahl (R:=R) (N:=N) (n1:=false) (n2:=false) (o1:=o1) (o2:=o2) d f n
 rw[Ap7,Ap7,<-Int.natCast_mul]at a2 a3
 rw[Awr]at a2 a3
 refine⟨S,a1,a2,fun K=>?_⟩
 rw[a3,decide_eq_false (by omega)]
def d_{P Q m j:Nat}(hP:1<=P)(hQ:1<=Q)(d:j<=m):P ^ j<=Q*P ^ m:=by
 have f:P ^ j<=P ^ m:=Avb hP d
 have l:1*P ^ m<=Q*P ^ m:=Au8 _ hQ
 omega
def Ado{N k:Nat}(D:fit (2*k+4) N):∀(fuel m P Q:Nat)(c:Bool)(s:LS)(S:List Nat),m<fuel->m<=1000000000->1<=P->1<=Q->Q*P ^ m<4294967296 ^ k->Ax s.l->val s.l=P->s.l.length<=k+1->Ax S->val S=Q ->
  ∃ S',Ax S'/\val S'=Q*P ^ m/\∀ K:Bool->Nat->LA->O R,Kt N K fuel (m:Int) c (AN false s) false (Bb Q).length (Au S)=K false (Bb (Q*P ^ m)).length (Au S'):=by
 intro fuel
 induction fuel with
|zero=>intro m P Q c s S h;omega
| succ fuel q =>
  intro m P Q c s S M G hP hQ f hs v x hS hSv
  rcases Avv m with y|y
  ·subst y
   refine⟨S,hS,by simp[hSv],fun K=>?_⟩
   rw[Kt];unfold R3
   rw[show decide (((0:Nat):Int)>0)=false by decide,cf,Ayq,Auz]
  ·have lQ:(Bb Q).length<=k:=FB (Awk (Ayj Q (Axt hP)) f)
   have hPm:P ^ 1<=Q*P ^ m:=d_ hP hQ y
   obtain⟨S1,a1,a2,a3⟩:=Aky (R:=R) (N:=N) (s1:=.of (Bb Q) false true) (s2:=s) (o1:=true) (o2:=c) (A2 _) hs (D.le (show(Bb Q).length+s.l.length<=_ by omega))
   have vQ:val (LS.of (Bb Q) false true).l=Q:=A5 Q
   rw[vQ,v]at a2 a3
   obtain⟨S2,F,z,A⟩:=Aky (R:=R) (N:=N) (s1:=s) (s2:=s) (o1:=c) (o2:=c) hs hs (D.le (show s.l.length+s.l.length<=_ by omega))
   rw[v]at z A
   have sq:∀ n t:Nat,(P*P) ^ n=P ^ (2*n):=fun n t=>by rw[<-Azx,<-Ay8]
   have gt0:decide ((m:Int)>0)=true:=by simp;omega
   have cell:∀(t:Nat)(u:List Nat),([.bool false,.imm (take ((Bb t).length*1) (Au u)) (Bb t).length 1 false false]:LA)=[.bool false,.imm (take ((Bb t).length*1) (Au u)) (Bb t).length 1 false false]:=fun _ _=>rfl
   by_cases d:m%2=1
   ·by_cases I:1<m
    ·have e:Q*P ^ m=(Q*P)*(P*P) ^ (m/2):=by
      rw[sq _ 0,Avu,<-Nat.pow_succ']
      congr 2;omega
     have l2:(Bb (P*P)).length<=k:=FB (Awk (by have:=d_ (j:=2) hP hQ (show 2<=m by omega);rwa [Azx]at this) f)
     obtain⟨S',c1,c2,c3⟩:=q (m/2) (P*P) (Q*P) (c||false) (.of (Bb (P*P)) false false) S1 (by omega) (by omega) (Ay6 hP hP) (Ay6 hQ hP) (by rw[<-e];exact f) (A2 _) (A5 _) (by show(Bb (P*P)).length<=_;omega) a1 a2
     refine⟨S',c1,by rw[c2,e],fun K=>?_⟩
     rw[Kt];unfold R3
     rw[gt0,ct,Akw,decide_eq_true d,ct,Aks,ct,Aqp,Jf hS hSv,Am5,a3,show decide ((m:Int)>1)=true by simp;omega,ct,ct,ct,A,show((beq 2 2)&&(true&&(!false)))=true by rfl,ct,Akx (by omega),Ae7,Jf F z,Am5,c3,e]
    ·have C:m=1:=by omega
     subst C
     obtain⟨S',c1,c2,c3⟩:=q 0 P (Q*P) c s S1 (by omega) (by omega) hP (Ay6 hQ hP) (by simpa using f) hs v x a1 a2
     rw[Ayq,Auz]at c2 c3
     refine⟨S',c1,by rw[c2,Nat.pow_one],fun K=>?_⟩
     rw[Kt];unfold R3
     rw[gt0,ct,Akw,decide_eq_true d,ct,Aks,ct,Aqp,Jf hS hSv,Am5,a3,show decide (((1:Nat):Int)>1)=false by decide,cf,Akx (by omega),c3,Nat.pow_one]
   ·have I:1<m:=by omega
    have e:Q*P ^ m=Q*(P*P) ^ (m/2):=by
     rw[sq _ 0];congr 2;omega
    have l2:(Bb (P*P)).length<=k:=FB (Awk (by have:=d_ (j:=2) hP hQ (show 2<=m by omega);rwa [Azx]at this) f)
    obtain⟨S',c1,c2,c3⟩:=q (m/2) (P*P) Q (c||false) (.of (Bb (P*P)) false false) S (by omega) (by omega) (Ay6 hP hP) hQ (by rw[<-e];exact f) (A2 _) (A5 _) (by show(Bb (P*P)).length<=_;omega) hS hSv
    refine⟨S',c1,by rw[c2,e],fun K=>?_⟩
    rw[Kt];unfold R3
    rw[gt0,ct,Akw,decide_eq_false d,cf,show decide ((m:Int)>1)=true by simp;omega,ct,Aks,ct,ct,Aqp,A,show((beq 2 2)&&(true&&(!false)))=true by rfl,ct,Akx (by omega),Ae7,Jf F z,Am5,c3,e]
def Am8:Bb 10=[10]:=by rw[CY (by omega)];simp[Gd]
def Akz(n:Nat):10 ^ n<4294967296 ^ (n+1):=by
 have d:10 ^ n<=4294967296 ^ n:=Aza (by omega) n
 have f:4294967296 ^ n<4294967296 ^ (n+1):=Nat.pow_lt_pow_right (by omega) (by omega)
 omega
def Ahr{N n:Nat}(d:fit (2*n+6) N):∃ S,Ax S/\val S=10 ^ n/\∀(K:Bool->Nat->LA->O R),(Nn N 10 fun g e i=>VF N [.bool g,.imm (i.take (e*1)) e 1 false true] true (n:Int) K)=K false (Bb (10 ^ n)).length (Au S):=by
 have t:=d.1;have u:=d.2
 obtain⟨S0,a1,a2,a3⟩:=Tg (R:=R) (N:=N) (v:=1) (by omega) (by omega)
 obtain⟨S1,f,q,s⟩:=Tg (R:=R) (N:=N) (v:=10) (by omega) (by omega)
 obtain⟨S',c1,c2,c3⟩:=Ado (R:=R) (N:=N) (k:=n+1) (d.le (by omega)) N n 10 1 true (.of (Bb 10) false true) S0 (by omega) (by omega) (by omega) (by omega) (by rw[Ay7];exact Akz n) (A2 _) (A5 _) (by rw[Am8];simp[LS.l]) a1 a2
 rw[Ay7]at c2 c3
 refine⟨S',c1,c2,fun K=>?_⟩
 rw[s,gM];unfold X'
 rw[a3]
 refine Axg ?_ (c3 K)
 rw[show(10:Int).natAbs=10 by rfl,show(1:Int).natAbs=1 by rfl]at *
 rw[Jf f q]
 rfl
def As0:(Bb (10 ^ 9)).length<=1:=FB (by decide)
def GX(v:Nat)(a b:Bool):Ax (LS.of (Bb v) a b).l:=A2 v
def Ak0{N v:Nat}{o:Bool}{K:Int->O R}(d:fit ((Bb v).length) N):XV N (Th (v:Int)) o K=K (v:Int).sign:=by
 rw[Akv,rU (GX _ _ _) d,Ap7]
 simp only[LS.l]
 rw[A5]
def Adp{v k:Nat}(h:v<10 ^ k):(dec v).length<=k+1:=by
 have:=(Am7 (u:=v) (k:=k+1) (by omega)).2 (Av3 h (Avb (by omega) (by omega)))
 exact this
def Am9(k:Nat):4294967296 ^ k<=10 ^ (10*k):=by rw[Ay8];exact Aza (by decide) _
def rX(v:Nat):(dec v).length<=10*(Bb v).length+1:=Adp (Av3 (Apd (Aui _)) (Am9 _))
def zy(z:Int)(s:Lu):Lu:=if z<0 then 45::s else s
def Ak1{a b:Nat}(h:a<=b):ble a b=true:=by simpa using h
def js(z:Int):Lu:=zy z (dec z.natAbs)
def rY{v:Nat}(d:v<10):(take ((wrap .u64 ((v:Int)+1)).toNat - (v:Int).toNat) (drop (v:Int).toNat ([48,49,50,51,52,53,54,55,56,57]:Lu)))=[UInt8.ofNat (48+v)]:=by
 rw[show(v:Int)+1=((v+1:Nat):Int) by omega,JX (by omega),Auf,Auf]
 rcases v with _|_|_|_|_|_|_|_|_|_|v<;>first|rfl|omega
def Aaa{v:Nat}(d:v<10):((decide (0<=(v:Int)))&&((decide ((v:Int)<=(wrap .u64 ((v:Int)+1))))&&((decide ((wrap .u64 ((v:Int)+1))<=10))&&(decide ((10:Int)<=(10:Int))))))=true:=by
 rw[show(v:Int)+1=((v+1:Nat):Int) by omega,JX (by omega)]
 simp;omega
def Aqt{N v:Nat}{t o:Bool}{K:Nat->Nat->Bool->LA->LA->O R}(d:fit ((Bb v).length+6) N):Ua N (Au (Bb v)) (Bb v).length t o [.int .u32 10] 1 false true K=K (Bb (v/10)).length (Bb (v%10)).length true (Au (Bb (v/10))) (Au (Bb (v%10))):=by
 have:=xS (R:=R) (N:=N) (a:=Bb v) (b:=[10]) (t:=t) (o:=o) (t':=false) (o':=true) (K:=K) rfl rfl (A2 _) (by intro x hx;simp at hx;omega) (by decide) (d.le (by simp))
 rw[A5]at this
 exact this
def Ak2{N v:Nat}{K:Int->Bool->O R}(f:v<10)(d:fit 1 N):Nm N (take ((Bb v).length*1) (Au (Bb v))) (Bb v).length false true K=K (v:Int) true:=by
 have:(Bb v).length<=1:=FB (by omega)
 rw[Ap6,DL rfl (A2 _) (d.le (by omega)),A5,if_pos (by omega)]
def xV{N:Nat}{l:LA}{c:Nat}{e d:Bool}{K:Lu->O R}:∀(fuel v:Nat)(f:Lu),0<v->(dec v).length<=fuel->(dec v).length+f.length<=100000000000->fit ((Bb v).length+6) N->S7 N K l c e d fuel (Bb v).length f (Au (Bb v))=K (dec v++f):=by
 intro fuel
 induction fuel with
|zero=>intro v f _ h;exact absurd (Awl.1 (by omega)) (d8 v)
| succ fuel s =>
  intro v f z t x n
  have q:v%10<10:=Aw0 _ (by omega)
  have hs:(([UInt8.ofNat (48+v%10)]:Lu).length)=1:=rfl
  rw[S7];unfold FU
  rw[Ap6,Aqt n,Ak2 q (n.le (by omega)),Aaa q,ct,rY q,Ak1 (by rw[hs];omega),ct]
  by_cases h:v<10
  ·rw[Awm h,Gd,show(((([]:List Nat).length:Nat):Int)==0)=true by rfl,ct,U1 h,Avg h]
  ·have y:0<v/10:=Nat.div_pos (by omega) (by omega)
   rw[Ahf (fun e=>by have:=Er.1 e;omega),cf]
   rw[QK (by omega),Aua,Avc]at t x
   rw[s (v/10) _ y (by omega) (by rw[Aua,hs];omega) (n.le (by have:=Lf (Axe v 10);omega)),QK (u:=v) (by omega),Aun]
def iC{N v:Nat}{e d:Bool}{K:Lu->O R}(f:fit ((Bb v).length+6) N):Xq N (Au (Bb v)) (Bb v).length e d K=K (dec v):=by
 have x:=f.1;have y:=f.2
 have z:=rX v
 rw[US];unfold IK
 obtain⟨n,rfl⟩:∃ n,N=n+1:=⟨N - 1,by omega⟩
 have l:v%10<10:=Aw0 _ (by omega)
 have hs:(([UInt8.ofNat (48+v%10)]:Lu).length)=1:=rfl
 rw[S8];unfold FV
 rw[Aqt f,Ak2 l (f.le (by omega)),Aaa l,ct,rY l,Ak1 (by rw[hs];omega),ct]
 by_cases h:v<10
 ·rw[Awm h,Gd,show(((([]:List Nat).length:Nat):Int)==0)=true by rfl,ct,U1 h,Avg h];rfl
 ·have q:0<v/10:=Nat.div_pos (by omega) (by omega)
  have s:=rX (v/10)
  have t:=Lf (Axe v 10)
  rw[Ahf (fun e=>by have:=Er.1 e;omega),cf,Auk]
  exact(xV (R:=R) n (v/10) _ q (by omega) (by rw[hs];omega) (f.le (by omega))).trans (by rw[QK (u:=v) (by omega)])
def Ak3{N:Nat}{z:Int}{u:Bool}{K:Lu->O R}(d:fit ((Bb z.natAbs).length+6) N):Ta N (Th z) u K=K (js z):=by
 have f:=d.2
 have l:=rX z.natAbs
 rw[IL];unfold FW
 rw[Aqr,ct,Atk,Aoi,Adm (GX _ _ _) (d.le (by show(Bb z.natAbs).length<=_;omega)),Am6,<-Aoi,Asy,ct,Asx,Asz]
 unfold js zy
 by_cases h:z<0
 ·rw[decide_eq_true h,ct,Aq9,iC d,Ak1 (by omega),ct,if_pos h];rfl
 ·rw[decide_eq_false h,cf,Aq9,iC d,if_neg h]
end
end Gx
namespace Gx.Ct
open Go Go.Proofs Gx.Cf
def WK:Fh:=fun z h=>Av2 (Lib.itoa_length_le z h.1 h.2) (by decide)
def Wi(z:Int):tx z=js z:=by
 unfold tx Lib.itoa js zy
 by_cases d:z<0
 ·rw[if_pos d,if_pos d]
 ·rw[if_neg d,if_neg d];unfold dec
  first|rfl|(rw[show z.toNat=z.natAbs by omega])
def Ak4(u:Nat):Lib.decDigits u≠[]/\(Lib.decDigits u).getLast?≠some 10:=by
 have d:(Lib.decDigits u).length≠0:=by rw[Lib.decDigits_length];rw[Lib.nDigits];split<;>omega
 refine⟨fun e=>d (by rw[e];rfl),fun e=>?_⟩
 rw[Lib.decDigits]at e
 split at e
 ·simp at e
  rename_i h
  have:u=0\/u=1\/u=2\/u=3\/u=4\/u=5\/u=6\/u=7\/u=8\/u=9:=by omega
  rcases this with rfl|rfl|rfl|rfl|rfl|rfl|rfl|rfl|rfl|rfl<;>revert e<;>decide
 ·rw[Axs]at e
  simp at e
  generalize f:u%10=v at e
  have:v=0\/v=1\/v=2\/v=3\/v=4\/v=5\/v=6\/v=7\/v=8\/v=9:=by omega
  rcases this with rfl|rfl|rfl|rfl|rfl|rfl|rfl|rfl|rfl|rfl<;>revert e<;>decide
def Ak5(z:Int):Amn (tx z):=by
 unfold tx Lib.itoa
 split
 ·obtain⟨d,f⟩:=Ak4 z.natAbs
  refine⟨by simp,?_⟩
  rw[show(45::Lib.decDigits z.natAbs)=[45]++Lib.decDigits z.natAbs from rfl,lB d]
  exact f
 ·exact Ak4 _
def Aqu{R:Type}{N:Nat}(hN:1000000000<N):FI R N:=fun z d K=>by
 rw[tM d (by omega),Ak3,Wi]
 have:=YF (v:=z.natAbs) (by unfold FA at d;omega)
 exact⟨by omega,by omega⟩
def Ib{lo hi v:Int}(h:F5 lo hi v=true)(d:-1000000000000000000<=lo)(f:hi<=1000000000000000000):FA v:=by unfold F5 at h;simp only[Auh,decide_eq_true_eq]at h;unfold FA;omega
def CK{v:Int}(h:-1000000000000000000<=v/\v<=1000000000000000000):FA v:=by unfold FA;omega
def rZ{f:FracD}(h:Nj f=true):FA f.num/\FA f.den:=by
 unfold Nj at h;simp only[Auh]at h
 exact⟨Ib h.2 (by decide) (by decide),Ib h.1 (by decide) (by decide)⟩
def YH{M:Nat}(hM:1000<=M){c:CaseD}(g:CJ c):CaseI M c/\ListsOk c:=by
 obtain⟨H,res,bs,ls,us,ss,ts,os,b,og,y,rfl⟩:=g
 have h:=b.h;have bl:=b.bl;have ll:=b.ll;have ul:=b.ul;have sl:=b.sl;have tl:=b.tl;have ol:=og.l
 refine⟨⟨CK (by simp only[SQ];omega),⟨fun z d=>CK (by have:=b.rr z d;omega),by have:=b.rl;simp only[SQ,Sl.l];omega⟩,fun x hx=>?_,fun x hx=>?_,fun x hx=>?_,fun x hx=>?_,fun x hx=>?_,fun x hx=>?_⟩,
  ⟨by simp only[SQ,Sl.l];omega,by simp only[SQ,Sl.l];omega,by simp only[SQ,Sl.l];omega,by simp only[SQ,Sl.l];omega,by simp only[SQ,Sl.l];omega,by simp only[SQ,Sl.l];omega⟩⟩
 all_goals simp only[SQ,Sl.l]at hx
 ·obtain⟨i,hi,rfl⟩:=Aut hx
  have g:=b.bg i hi
  exact⟨⟨fun z d=>CK (by have:=g.dr z d;omega),by have:=g.dl;omega⟩,CK (by have:=g.shed;omega)⟩
 ·obtain⟨i,hi,rfl⟩:=Aut hx
  have g:=(b.lg i hi).g
  have n:=g.re;have q:=g.smin;have f:=g.smax;have u:=g.lim;have t:=g.em
  simp only[Auh]at n q f
  refine⟨rZ n.1,rZ q.1,rZ f.1,⟨Ib u (by decide) (by decide),?_⟩,fun z d=>CK (by have:=g.awr z d;omega),by have:=g.aw;omega⟩
  unfold F5 at u t
  simp only[Auh,decide_eq_true_eq]at u t
  exact CK (by omega)
 ·obtain⟨i,hi,rfl⟩:=Aut hx
  have g:=b.ug i hi
  have so:=Auv.1 g.sok
  refine⟨?_,⟨fun s hs=>?_,by have:=g.sl;omega⟩,fun z d=>CK (by have:=g.awr z d;omega),by have:=g.aw;omega⟩
  ·have n:=g.min;have q:=g.max;have f:=g.startRamp;have u:=g.stopRamp;have t:=g.output
   unfold F5 at n q f u t
   simp only[Auh,decide_eq_true_eq]at n q f u t
   intro z d
   simp only[Aum,Auu,or_false]at d
   rcases d with rfl|rfl|rfl|rfl|rfl|rfl|rfl|rfl|rfl|rfl|rfl|rfl|rfl|rfl|rfl|rfl|rfl
   ·exact CK (by omega)
   ·exact CK (by omega)
   ·exact Ib g.noLoad (by decide) (by decide)
   ·exact Ib g.rampUp (by decide) (by decide)
   ·exact Ib g.rampDown (by decide) (by decide)
   ·exact CK (by omega)
   ·exact CK (by omega)
   ·exact Ib g.upTime (by decide) (by decide)
   ·exact Ib g.downTime (by decide) (by decide)
   ·exact Ib g.startTime (by decide) (by decide)
   ·exact Ib g.hotCost (by decide) (by decide)
   ·exact Ib g.coldCost (by decide) (by decide)
   ·exact Ib g.hotHours (by decide) (by decide)
   ·exact Ib g.reserve (by decide) (by decide)
   ·exact Ib g.reservePrice (by decide) (by decide)
   ·exact Ib g.hours (by decide) (by decide)
   ·refine CK ?_
    cases hs:us[i].state==2<;>rw[hs]at t<;>simp at t<;>omega
  ·have:=so s hs
   unfold ff at this
   simp only[Auh]at this
   exact⟨Ib this.1 (by decide) (by decide),Ib this.2 (by decide) (by decide)⟩
 ·have g:=b.sg x hx
  have n:=g.cap;have q:=g.ini;have f:=g.fin;have u:=g.ch;have t:=g.dis;have A:=g.eff
  refine⟨fun z d=>?_⟩
  simp only[Aum,Auu,or_false]at d
  rcases d with rfl|rfl|rfl|rfl|rfl|rfl|rfl<;>exact CK (by omega)
 ·have g:=b.tg x hx
  have n:=g.il;have q:=g.el;have f:=g.pl
  exact⟨⟨fun z d=>CK (by have:=g.ir z d;omega),by omega⟩,⟨fun z d=>CK (by have:=g.er z d;omega),by omega⟩,⟨fun z d=>CK (by have:=g.pr z d;omega),by omega⟩⟩
 ·obtain⟨i,hi,rfl⟩:=Aut hx
  have g:=og.g i hi
  have n:=g.ll;have q:=g.ml;have f:=Auv.1 g.mi
  refine⟨by omega,fun m v=>?_,by omega⟩
  have:=f m v
  unfold zK at this
  simp only[Auh]at this
  exact⟨Ib this.1 (by decide) (by decide),Ib this.2 (by decide) (by decide)⟩
end Gx.Ct
namespace Gx
open Go Go.Proofs
section
variable{R:Type}
def Aab:∀(s:Lu)(d k:Nat),d<10 ^ k->s.length+k<=18->s.all Dp=true->Lib.parseUint10 d s=.ok (d*10 ^ s.length+Jl s)
|[],d,_,_,_,_=>by simp[Lib.parseUint10,Jl]
|c::r,d,k,v,u,l=>by
  simp only[Au5,Auh]at l
  have t:=l.1
  simp[Dp]at t
  simp only[Aub]at u
  have f:10 ^ (k+1)<=10 ^ 18:=Avb (by omega) (by omega)
  rw[Au7]at f
  have n:d*10+(c.toNat - 48)<10 ^ k*10:=by omega
  have q:(10:Nat) ^ 18=1000000000000000000:=by decide
  rw[q]at f
  rw[Lib.parseUint10,if_pos t,if_neg (by omega),if_neg (by omega),Aab r (d*10+(c.toNat - 48)) (k+1) (by rw[Au7];exact n) (by omega) l.2,jq,Aub,Au7,Av5]
  congr 1
  rw[show d*10*10 ^ r.length=d*(10 ^ r.length*10) by rw[Avu,Av6 10]]
  omega
def Ahs{N:Nat}{s:Lu}{K:Int->O R}(hs:s.all Dp=true)(d:s≠[])(f:s.length<=18):DB N s K=K (Jl s:Int):=by
 have l:=xT hs
 have n:10 ^ s.length<=10 ^ 18:=Avb (by omega) f
 have q:(10:Nat) ^ 18=1000000000000000000:=by decide
 have key:Lib.atoiAll s=.ok (Jl s:Int):=by
  cases s with
  |nil=>exact absurd rfl d
  |cons c r =>
   have t:Dp c=true:=by simp only[Au5,Auh]at hs;exact hs.1
   simp[Dp]at t
   rw[Lib.atoiAll_plain c r (by omega) (by omega),Lib.parseMag,if_neg d,Aab (c::r) 0 0 (by decide) (by omega) hs,Aw6,Aux,Lib.signless,if_neg (by omega)]
 rw[Mt];unfold O8
 rw[Ak1 (by omega),ct,key]
def Ana(k:Nat):10 ^ k<4294967296 ^ (k+1):=Akz k
def Aoj{v k:Nat}(h:v<10 ^ k):(Bb v).length<=k+1:=FB (Nat.lt_trans h (Ana k))
def mK{N:Nat}{c:Bool}{q:Nat}{S9:List Nat}{K:LA->O R}(h1:Ax S9)(h2:val S9=10 ^ q)(hq:q=9):∀(fuel j v:Nat)(g:Lu)(S:List Nat),g.length<fuel->g.all Dp=true->v<10 ^ j->(v=0\/g.length%9=0)->fit (j+g.length+20) N->Ax S->val S=v ->
  Ku N K c false (Bb (10 ^ q)).length (Au S9) fuel g false (Bb v).length (Au S)=K (Th (if c then -((v*10 ^ g.length+Jl g:Nat):Int)else((v*10 ^ g.length+Jl g:Nat):Int))):=by
 intro fuel
 induction fuel with
|zero=>intro j v g S h;omega
| succ fuel ih =>
  intro j v g S hl C F s n hS hSv
  have f1:=n.1;have f2:=n.2
  have G:(Bb (10 ^ q)).length<=1:=by rw[hq];exact As0
  have hdv:=Aoj F
  rw[Ku];unfold KL
  cases t:g with
  | nil =>
   rw[show(!(([]:Lu)==[]))=false by rfl,cf]
   rw[show v*10 ^ ([]:Lu).length+Jl []=v by simp[Jl]]
   cases c
   ·rw[cf,Jf hS hSv,if_neg (by simp)]
    congr 1
   ·rw[ct,Jf hS hSv,Am5,u9 (GX _ _ _) (n.le (by show(Bb v).length<=_;omega)),Ap7,show val (LS.of (Bb v) false true).l=v from A5 v,Awr,Ap6,if_pos rfl]
    congr 1
    unfold Th
    rw[Int.natAbs_neg,Awr];rfl
  | cons d r =>
   rw[<-t]
   have u:g≠[]:=by rw[t];simp
   have T:=List.length_pos_iff.2 u
   rw[show(!(g==[]))=true by simp[u],ct]
   have step:∀ o:Nat,1<=o->o<=9->o<=g.length->(g.length - o)%9=0->(v=0\/o=q)->Wa N (Ku N K c false (Bb (10 ^ q)).length (Au S9) fuel) K c false (Bb (10 ^ q)).length (Au S9) g (o:Int) false (Bb v).length (Au S)=K (Th (if c then -((v*10 ^ g.length+Jl g:Nat):Int)else((v*10 ^ g.length+Jl g:Nat):Int))):=by
    intro o o1 o9 ol om oz
    have U:(g.take o).all Dp=true:=by
     rw[Auv]at C ⊢;exact fun x hx=>C x (Axh hx)
    have f:(g.take o).length=o:=by rw[Avd];omega
    have y:(g.drop o).length=g.length - o:=List.length_drop ..
    have z:=xT U
    rw[f]at z
    have D:10 ^ o<=10 ^ q:=Avb (by omega) (by omega)
    have e9:10 ^ q=1000000000:=by rw[hq]
    obtain⟨S1,a1,a2,a3⟩:=Aky (R:=R) (N:=N) (s1:=.of (Bb v) false true) (s2:=.of (Bb (10 ^ q)) false true) (o1:=true) (o2:=true) (GX _ _ _) (GX _ _ _) (n.le (by have:=G;show(Bb v).length+(Bb (10 ^ q)).length<=_;omega))
    rw[show val (LS.of (Bb v) false true).l=v from A5 v,show val (LS.of (Bb (10 ^ q)) false true).l=10 ^ q from A5 _]at a2 a3
    obtain⟨S2,b1,V,X⟩:=Tg (R:=R) (N:=N) (v:=(Jl (g.take o):Int)) (by omega) (by omega)
    rw[Awr]at V X
    have hm:v*10 ^ q<10 ^ (j+q):=by rw[Aw5];exact Nat.mul_lt_mul_of_pos_right F (Axt (by omega))
    have hdm:=Aoj hm
    have hdx:(Bb (Jl (g.take o))).length<=1:=FB (by omega)
    obtain⟨S3,c1,c2,c3⟩:=Ahm (R:=R) (N:=N) (n1:=false) (n2:=false) (s1:=.of (Bb (v*10 ^ q)) false true) (s2:=.of (Bb (Jl (g.take o))) false true) (o1:=true) (o2:=true) (GX _ _ _) (GX _ _ _) (n.le (by show(Bb (v*10 ^ q)).length+(Bb (Jl (g.take o))).length+1<=_;omega))
    rw[Ap7,Ap7,show val (LS.of (Bb (v*10 ^ q)) false true).l=v*10 ^ q from A5 _,show val (LS.of (Bb (Jl (g.take o))) false true).l=Jl (g.take o)from A5 _,vw,Awr]at c2 c3
    unfold Wa
    rw[show((decide ((0:Int)<=(0:Int)))&&((decide (0<=(o:Int)))&&((decide ((o:Int)<=((g.length:Nat):Int)))&&(decide (((g.length:Nat):Int)<=((g.length:Nat):Int))))))=true by simp;omega,ct,Auf]
    rw[Ahs U (by intro e;rw[e]at f;simp at f;omega) (by omega)]
    rw[Jf hS hSv,Jf h1 h2,Am5,Am5,a3,X,Jf a1 a2,Jf b1 V,Am5,show decide (((Jl (g.take o):Nat):Int)<0)=false by simp,Am5,c3]
    rw[show decide (((v*10 ^ q+Jl (g.take o):Nat):Int)<0)=false by rw[decide_eq_false_iff_not];omega]
    rw[show((decide (0<=(o:Int)))&&((decide ((o:Int)<=((g.length:Nat):Int)))&&((decide (((g.length:Nat):Int)<=((g.length:Nat):Int)))&&(decide (((g.length:Nat):Int)<=((g.length:Nat):Int))))))=true by simp;omega,ct]
    rw[Aue (l:=g.drop o) (by omega)]
    have I:v*10 ^ q+Jl (g.take o)<10 ^ (j+q):=by
     rcases oz with oz|oz
     ·subst oz;rw[Aw6,Aux]
      have:10 ^ q<=10 ^ (j+q):=Avb (by omega) (by omega)
      omega
     ·have:(v+1)*10 ^ q<=10 ^ j*10 ^ q:=Au8 _ F
      rw[Av5,Ay7]at this
      rw[Aw5];omega
    have M:v*10 ^ q+Jl (g.take o)<10 ^ (j+o):=by
     rcases oz with oz|oz
     ·subst oz;rw[Aw6,Aux]
      have:10 ^ o<=10 ^ (j+o):=Avb (by omega) (by omega)
      omega
     ·rw[show j+o=j+q by rw[oz]];exact I
    rw[ih (j+o) (v*10 ^ q+Jl (g.take o)) (g.drop o) S3 (by omega) (by rw[Auv]at C ⊢;exact fun x hx=>C x (Ay0 hx)) M (.inr (by rw[y];exact om)) (n.le (by omega)) c1 c2]
    have e:(v*10 ^ q+Jl (g.take o))*10 ^ (g.drop o).length+Jl (g.drop o)=v*10 ^ g.length+Jl g:=by
     have Y:=WH (g.take o) (g.drop o)
     rw[Axp]at Y
     rw[Y,Av5,Avj]
     congr 1
     rcases oz with oz|oz
     ·subst oz;simp
     ·rw[Avu,<-Aw5,y];congr 2;omega
    rw[e]
   have A:Int.tmod (g.length:Int) 9=((g.length%9:Nat):Int):=rfl
   rw[A]
   by_cases D:g.length%9=0
   ·rw[D,show(((0:Nat):Int)==0)=true by rfl,ct]
    exact step 9 (by omega) (by omega) (by omega) (by omega) (.inr hq.symm)
   ·rw[Ahf D,cf]
    exact step (g.length%9) (by omega) (by omega) (Nat.mod_le _ _) (by omega) (.inl (by rcases s with s|s;exact s;exact absurd s D))
def BH(s:Lu):Int:=match s with
|45::r=>-((Jl r:Nat):Int)
|s=>((Jl s:Nat):Int)
def QL(s:Lu):Bool:=match s with
|45::r=>r.all Dp
|s=>s.all Dp
def WL{N:Nat}{s:Lu}{K:LA->O R}(hs:QL s=true)(d:fit (s.length+30) N):Xv N s K=K (Th (BH s)):=by
 have t:=d.1;have x:=d.2
 obtain⟨S0,a1,a2,a3⟩:=Tg (R:=R) (N:=N) (v:=0) (by omega) (by omega)
 obtain⟨S,f,l,q⟩:=Ahr (R:=R) (N:=N) (n:=9) (d.le (by omega))
 rw[bJ];unfold PP
 by_cases h:s.head?=some 45
 ·obtain⟨r,rfl⟩:∃ r,s=45::r:=by
   cases s with
   |nil=>simp at h
   |cons c r=>simp at h;exact⟨r,by rw[h]⟩
  rw[bS,a3]
  refine Axg (q _) ?_
  have:=mK (R:=R) (N:=N) (c:=true) (K:=K) f l rfl N 0 0 r S0 (by rw[Aub]at t;omega) hs (by decide) (.inl rfl) (d.le (by rw[Aub];omega)) a1 a2
  rw[Aw6,Aux]at this
  exact this
 ·have e1:BH s=((Jl s:Nat):Int):=by
   unfold BH
   split
   ·simp at h
   ·rfl
  have u:s.all Dp=true:=by
   rw[<-hs];unfold QL
   split
   ·simp at h
   ·rfl
  rw[WJ h,a3]
  refine Axg (q _) ?_
  have:=mK (R:=R) (N:=N) (c:=false) (K:=K) f l rfl N 0 0 s S0 (by omega) u (by decide) (.inl rfl) (d.le (by omega)) a1 a2
  rw[Aw6,Aux]at this
  rw[e1]
  exact this
def YI{s:Lu}(h:So s=true):s.all Dp=true:=by simp only[So,zw,Auh]at h;exact h.1.1
def YJ{s:Lu}(h:SP s=true):QL s=true:=by
 by_cases d:s.head?=some 45
 ·obtain⟨r,rfl⟩:∃ r,s=45::r:=by
   cases s with
   |nil=>simp at d
   |cons c r=>simp at d;exact⟨r,by rw[d]⟩
  have h:(So r&&!(r==[48]))=true:=h
  simp only[Auh]at h;exact YI h.1
 ·have e1:SP s=So s:=by
   unfold SP;split
   ·simp at d
   ·rfl
  have f:QL s=s.all Dp:=by
   unfold QL;split
   ·simp at d
   ·rfl
  rw[f];rw[e1]at h;exact YI h
def u_{s:Lu}(h:s.all Dp=true):∀ c∈s,c.toNat<128:=by
 intro c d
 have:=Auv.1 h c d
 simp[Dp]at this;omega
def Aac{s:Lu}(h:QL s=true):∀ c∈s,c.toNat<128:=by
 unfold QL at h
 split at h
 ·intro c d
  rcases Aum.1 d with rfl|d
  ·decide
  ·exact u_ h c d
 ·exact u_ h
def bT{N:Nat}{s:Lu}{K:LA->Int->O R}(hs:SP s=true)(d:fit (s.length+30) N):Z9 N s K=if 4096<rW s then K [.bool false,.nsl] 8 else K (Th (BH s)) 0:=by
 have f:=d.1;have l:=d.2
 rw[BE];unfold DH
 rw[KO (by omega),hs,show(!true)=false by rfl,cf,iB (Aac (YJ hs)) (by omega) (by omega)]
 by_cases h:4096<rW s
 ·rw[decide_eq_true h,ct,if_pos h]
 ·rw[decide_eq_false h,cf,WL (YJ hs) d,At4,ct,Aqr,ct,Atk,if_neg h]
def xW{N:Nat}{s:Lu}{K:LA->Int->O R}(hs:SP s=false)(d:fit (s.length+30) N):Z9 N s K=K [.bool false,.nsl] 2:=by
 have f:=d.1
 rw[BE];unfold DH
 rw[KO (by omega),hs];rfl
def Ak6(u:Nat):SP (dec u)=true:=by
 have d:=jr u
 unfold SP
 split
 ·rename_i r f
  have:=YI d
  rw[f]at this
  simp only[Au5,Auh]at this
  exact absurd this.1 (by decide)
 ·exact d
def Adq(u:Nat):BH (dec u)=(u:Int):=by
 unfold BH
 split
 ·rename_i r d
  have:=YI (jr u)
  rw[d]at this
  simp only[Au5,Auh]at this
  exact absurd this.1 (by decide)
 ·rw[WI]
def MV(z:Int):SP (js z)=true:=by
 unfold js zy
 by_cases h:z<0
 ·rw[if_pos h]
  show(So (dec z.natAbs)&&!(dec z.natAbs==[48]))=true
  rw[jr,Avi]
  simp only[Ax4,beq_eq_false_iff_ne]
  intro e
  have:=congrArg Jl e
  rw[WI]at this
  have:z.natAbs=0:=this
  omega
 ·rw[if_neg h];exact Ak6 _
def JI(z:Int):BH (js z)=z:=by
 unfold js zy
 by_cases h:z<0
 ·rw[if_pos h]
  show -((Jl (dec z.natAbs):Nat):Int)=z
  rw[WI];omega
 ·rw[if_neg h,Adq];omega
def eA(c b:UInt8)(l:Lu):Lib.index (b::l) [c]=if c=b then 0 else if Lib.index l [c]=-1 then -1 else Lib.index l [c]+1:=by
 rw[Lib.index]
 have f:([c].isPrefixOf (b::l)=true)↔c=b:=by simp[List.isPrefixOf]
 by_cases h:c=b
 ·rw[if_pos (f.2 h),if_pos h]
 ·rw[if_neg (fun e=>h (f.1 e)),if_neg h]
  by_cases d:Lib.index l [c]=-1
  ·rw[d];rfl
  ·rw[if_neg (by simpa using d),if_neg d]
def WM(c:UInt8):∀ s:Lu,c∉s->Lib.index s [c]=-1
|[],_=>rfl
|b::l,h=>by rw[eA,if_neg (fun e=>h (by simp[e])),WM c l (fun e=>h (by simp[e])),if_pos rfl]
def MW(c:UInt8)(b:Lu):∀ a:Lu,c∉a->Lib.index (a++c::b) [c]=(a.length:Int)
|[],_=>by rw[Au3,eA,if_pos rfl];rfl
|d::l,h=>by
  have:=MW c b l (fun e=>h (by simp[e]))
  rw[Aup,eA,if_neg (fun e=>h (by simp[e])),this,if_neg (by omega),Aub];omega
def Ape{c:UInt8}{s:Lu}(h:c∉s):Lib.cut s [c]=(s,[],false):=by unfold Lib.cut;rw[WM c s h,if_neg (by omega)]
def Ak7{c:UInt8}{a b:Lu}(h:c∉a):Lib.cut (a++c::b) [c]=(a,b,true):=by
 unfold Lib.cut;rw[MW c b a h,if_pos (by omega),Auf]
 rw[Ay3,Avc,<-List.drop_drop,Ax2];rfl
def Ak8{N:Nat}{s t:Lu}{K:Lu->Lu->Bool->O R}(h:s.length<=4294967280):strings_Cut N s t K=K (Lib.cut s t).1 (Lib.cut s t).2.1 (Lib.cut s t).2.2:=by rw[Om];unfold Rw;rw[Ak1 h,ct]
def Aht{N:Nat}{s:Lu}{K:Lu->Lu->Bool->O R}(hs:SP s=true)(d:s.length<N):VJ N s K=K s [49] true:=by
 rw[gX];unfold YA
 rw[KO d,hs,ct]
end
end Gx
namespace Gx.Ct
open Go Go.Proofs Gx.Cf
def smallI(z:Int):Prop:=-1073741824<=z/\z<=1073741824
def Rj(z:Int):Prop:=-2147483648<z/\z<2147483648
def smallI.j{z:Int}(h:smallI z):Rj z:=by unfold smallI at h;unfold Rj;omega
section
variable{R:Type}{N:Nat}
def Ahu{x:RatD}{z:Int}(h:x.can (z:Rat))(d:Rj z):val x.ns.l=z.natAbs/\val x.ds.l=1/\z.natAbs<2147483648:=by
 unfold Rj at d
 refine⟨?_,?_,by omega⟩
 ·rw[h.2.1,Avh,A5]
 ·rw[h.2.2,Awe,A5]
def Aad{x:RatD}{z:Int}(h:x.can (z:Rat)):K5 x.neg x.ns=z:=by
 unfold K5
 rw[h.1,h.2.1,Avh,A5]
 by_cases d:z<0
 ·rw[if_pos (by simpa using d)];omega
 ·rw[if_neg (by simpa using d)];omega
def jt{x:RatD}{z:Int}{o:Bool}(hx:x.can (z:Rat))(s:Rj z)(n:fit x.m N){K:Int->Int->Bool->O R}:GG N x.av o K=K z 1 true:=by
 have d:x.ns.l.length<=x.m:=Ayr _ _
 have f:x.ds.l.length<=x.m:=Nat.le_max_right _ _
 obtain⟨v1,v2,v3⟩:=Ahu hx s
 have hi:=Aad hx
 have hn:=mJ x.neg x.ns
 rw[gC];unfold XZ
 rw[Apc,mI rfl hx.ok.1 (n.le d),if_pos (by omega),Adk,mI rfl hx.ok.2 (n.le f),if_pos (by omega),v2]
 rw[show((!true)==false)=true by rfl,ct,show((cond false true (!true))==false)=true by rfl,ct,show decide (((val x.ns.l:Nat):Int)>=2147483648)=false by rw[decide_eq_false_iff_not];omega]
 show Z8 N K (val x.ns.l:Int) ((1:Nat):Int) o x.av false=_
 unfold Z8
 rw[cf,Ahf (by omega),cf,Apb,i64 (a:=((val x.ns.l:Nat):Int)) (by omega)]
 unfold K5 at hi
 cases q:x.neg
 ·rw[q,if_neg (by decide)]at hi
  rw[hi];rfl
 ·rw[q,if_pos rfl]at hi
  show K (wrap .i64 (0 - ((val x.ns.l:Nat):Int))) (wrap .i64 ((1:Nat):Int)) true=_
  rw[Gx.i64 (by omega),show(0:Int) - ((val x.ns.l:Nat):Int)=z by omega];rfl
def eC{x:RatD}{z:Int}{o:Bool}(hx:x.can (z:Rat))(f:Rj z)(l:fit (4*x.m+1000) N):∃ d:RatD,d.can (z:Rat)/\∀ K:LA->O R,X_ N x.av o K=K d.av:=by
 have n:=l.1
 unfold Rj at f
 obtain⟨c,c1,c2⟩:=tK (R:=R) (N:=N) (s:=z) (b:=1) (by omega) (by omega) (by omega) (by omega)
 rw[Rat.mkRat_one]at c1
 refine⟨c,c1,fun K=>?_⟩
 rw[lS];unfold qZ
 rw[tJ,ct,bO,jt hx f (l.le (by omega)),ct]
 refine(c2 _).trans ?_
 rfl
def Ahv{x:RatD}{z:Int}(hx:x.can (z:Rat))(q:Rj z)(n:fit (4*x.m+1000) N):∃ d:RatD,d.can ((-z:Int):Rat)/\∀ K:LA->O R,xC N x.av false K=K d.av:=by
 have f:RatD.can ⟨x.neg,.of x.ns.l false false,.of x.ds.l false false⟩ (z:Rat):=hx
 obtain⟨c,c1,c2⟩:=eC (R:=R) (N:=N) (o:=false) f q n
 have s:c.ns.l.length<=x.m:=by
  rw[hx.m];rw[c1.2.1];exact Ayr _ _
 refine⟨⟨decide (-z<0),.of (Bb z.natAbs) false false,c.ds⟩,⟨by rw[Avh],by rw[Avh,Int.natAbs_neg];rfl,by rw[Awe];exact c1.2.2⟩,fun K=>?_⟩
 rw[q_];unfold xB
 rw[Apb,Apc,Adk,Asw,ct]
 refine(c2 _).trans ?_
 show jI N (AN c.neg c.ns) false _=_
 rw[u9 c1.ok.1 (n.le (by omega)),Aad c1]
 rw[Aue (l:=Au (Bb z.natAbs)) (by rw[show(Au (Bb z.natAbs)).length=(Bb z.natAbs).length from Auc _];omega)]
 rfl
def ju{x y:RatD}{a b:Int}{o o':Bool}{K:Int->O R}(hx:x.can (a:Rat))(l:Rj a)(f:y.can (b:Rat))(n:Rj b)(d:fit (4*(x.m+y.m)+10) N):Xs N x.av o y.av o' K=K (n_ a b):=by
 have s:=d.1
 rw[U_];unfold IQ
 rw[tJ,ct,bO,rV hx.ok (d.le (by omega)),tJ,ct,bO,rV f.ok (d.le (by omega)),hx.q,f.q,Avh,Avh]
 unfold Rj at l n
 by_cases hs:a.sign=b.sign
 ·rw[show(a.sign != b.sign)=false by simp[hs],cf,ct,jt hx l (d.le (by omega)),ct,jt f n (d.le (by omega)),show((true:Bool)==true)=true by rfl,ct,Aov,ct,tL,Int.mul_one,Int.mul_one,i64 (by omega),i64 (by omega)]
 ·rw[show(a.sign != b.sign)=true by simp[hs],ct,zu]
  congr 1
  unfold n_
  rcases Ax5 a 0 with p|p|p<;>rcases Ax5 b 0 with q|q|q
  all_goals first
   |(rw[Avp p,Avp q]at hs;exact absurd rfl hs)
   |(rw[Av1 p,Av1 q]at hs;exact absurd rfl hs)
   |(rw[p,q]at hs;exact absurd rfl hs)
   |skip
  ·rw[Avp p,q];rw[if_pos (by decide),if_pos (by omega)]
  ·rw[Avp p,Av1 q];rw[if_pos (by decide),if_pos (by omega)]
  ·rw[p,Avp q];rw[if_neg (by decide),if_pos (by decide),if_neg (by omega),if_pos (by omega)]
  ·rw[p,Av1 q];rw[if_pos (by decide),if_pos (by omega)]
  ·rw[Av1 p,Avp q];rw[if_neg (by decide),if_pos (by decide),if_neg (by omega),if_pos (by omega)]
  ·rw[Av1 p,q];rw[if_neg (by decide),if_pos (by decide),if_neg (by omega),if_pos (by omega)]
def Ahw{a:Int}(l:Rj a)(f:fit (4*((Bb a.natAbs).length+2)+1000) N):∃ d:RatD,d.can (a:Rat)/\∀ K:LA->Bool->O R,xE N (Th a) false (Th 1) false K=K d.av true:=by
 have hx:RatD.can ⟨decide (a<0),.of (Bb a.natAbs) false false,.of [1] false false⟩ (a:Rat):=⟨by rw[Avh],by rw[Avh];rfl,by rw[Awe,T1];rfl⟩
 have s:RatD.m ⟨decide (a<0),.of (Bb a.natAbs) false false,.of [1] false false⟩<=(Bb a.natAbs).length+1:=Nat.max_le.2 ⟨by show(Bb a.natAbs).length<=_;omega,by show 1<=_;omega⟩
 obtain⟨d,n,d2⟩:=eC (R:=R) (N:=N) (o:=(false||(false||false))) hx l (f.le (by omega))
 refine⟨d,n,fun K=>?_⟩
 rw[qa];unfold xD
 rw[Asz,Aq9,Aqs,ct,Asz,Aq9,Aqs,ct]
 have e1:([.bool (decide ((1:Int)<0)),.imm (Au (Bb (1:Int).natAbs)) (Bb (1:Int).natAbs).length 1 false false]:LA)=Th ((1:Nat):Int):=rfl
 rw[e1,Ak0 (f.le (by show(Bb 1).length<=_;rw[T1,Avc];omega))]
 show cond ((1:Int).sign==0) _ _=_
 rw[show((1:Int).sign==0)=false from rfl,cf]
 have q:([.bool (!(decide (a<0)==decide ((1:Int)<0))),.imm (Au (Bb a.natAbs)) (Bb a.natAbs).length 1 false false,.imm (Au (Bb (1:Int).natAbs)) (Bb (1:Int).natAbs).length 1 false false]:LA)=RatD.av ⟨decide (a<0),.of (Bb a.natAbs) false false,.of [1] false false⟩:=by
  rw[show(1:Int).natAbs=1 from rfl,T1,show(!(decide (a<0)==decide ((1:Int)<0)))=decide (a<0) by cases decide (a<0)<;>rfl];rfl
 rw[q]
 refine(d2 _).trans ?_
 rfl
end
end Gx.Ct
namespace Gx.Ct
open Go Go.Proofs Gx.Cf
section
variable{R:Type}{N:Nat}
def YK{v:Nat}(h:v<4294967296):Bb v=if v=0 then []else [v]:=by
 by_cases d:v=0
 ·rw[if_pos d,d,Gd]
 ·rw[if_neg d,CY (by omega),Avg h,Awm h,Gd]
def r4{x:RatD}{z:Int}(hx:x.can (z:Rat))(s:smallI z)(l:fit (4*(x.m+10)+1000) N){K:Int->Bool->O R}:Wb N x.av false K=K z true:=by
 have f:=s
 unfold smallI at s
 have A:=l.1
 obtain⟨d,q,d2⟩:=bR (R:=R) (N:=N) (v:=1073741824) (by omega) (by omega)
 have md:d.m<=2:=by
  rw[q.m];show max (Bb (Rat.num ((1073741824:Int):Rat)).natAbs).length (Bb (Rat.den ((1073741824:Int):Rat))).length<=2
  rw[Avh,Awe,YK (by omega),T1];decide
 obtain⟨e,e1,y⟩:=Ahv (R:=R) (N:=N) q (by unfold Rj;omega) (l.le (by omega))
 have me:e.m<=2:=by
  rw[e1.m];show max (Bb (Rat.num ((-1073741824:Int):Rat)).natAbs).length (Bb (Rat.den ((-1073741824:Int):Rat))).length<=2
  rw[Avh,Awe,YK (by omega),T1];decide
 obtain⟨n,n1,n2⟩:=eC (R:=R) (N:=N) (x:=x) (o:=false) hx f.j (l.le (by omega))
 rw[PS];unfold MH
 rw[d2,Asv,ct,tJ,ct,tJ,ct,bO,bO,ju hx f.j q (by unfold Rj;omega) (l.le (by omega))]
 rw[show decide (n_ z 1073741824>0)=false by unfold n_;rw[decide_eq_false_iff_not];split<;>(try split)<;>omega,show((false:Bool)==false)=true from rfl,ct,y]
 rw[ju hx f.j e1 (by unfold Rj;omega) (l.le (by omega))]
 rw[show decide (n_ z (-1073741824)<0)=false by unfold n_;rw[decide_eq_false_iff_not];split<;>(try split)<;>omega]
 rw[show cond false true false=false from rfl,cf]
 unfold IT PR
 rw[tJ,ct,bO,n2]
 rw[show setCells x.av 0 n.av=n.av from rfl]
 rw[ct,ct,show(beq (List.length n.av) 3&&(true&&!false))=true from rfl,ct]
 rw[Adk,n1.2.2,Awe,T1]
 rw[show(((((([1]:List Nat).length:Nat):Int) != 1)==false):Bool)=true from rfl,ct]
 rw[Adk,n1.2.2,Awe,T1]
 show IS N K false n.av=_
 rw[IS];unfold PQ
 rw[Apc,n1.2.1,Avh,YK (by omega)]
 have t:∀ F:Bool->O R,HF n.av F=F (decide (z<0)):=fun F=>by rw[Apb,n1.1,Avh]
 obtain⟨m,rfl⟩:∃ m,N=m+2:=⟨N - 2,by omega⟩
 by_cases u:z.natAbs=0
 ·have:z=0:=by omega
  subst this
  rw[if_pos u]
  show Q3 (m+2) K (Au []) 0 false n.av (m+2) 0 0 0=_
  rw[Q3];unfold DI
  rw[show decide ((0:Int)<0)=false from rfl,cf,t];rfl
 ·rw[if_neg u]
  show Q3 (m+2) K (Au [z.natAbs]) 1 false n.av (m+1) (wrap .i64 (z.natAbs:Int)) 1 (wrap .i64 (0+1))=_
  rw[Gx.i64 (by omega),Q3];unfold DI
  rw[show decide (wrap .i64 (0+1)<1)=false from rfl,cf,t]
  by_cases hn:z<0
  ·rw[decide_eq_true hn]
   show K (wrap .i64 (0 - (z.natAbs:Int))) true=_
   rw[Gx.i64 (by omega)];congr 1;omega
  ·rw[decide_eq_false hn]
   show K (z.natAbs:Int) true=_
   congr 1;omega
def jv{z:Int}(d:smallI z):(tx z).length<=30/\rW (tx z)<=4096:=by
 have h:=WK z (by unfold FA;unfold smallI at d;omega)
 exact⟨h,Av2 (Av2 List.countP_le_length h) (by omega)⟩
def xX{z:Int}(d:smallI z)(f:fit 1500 N){K:Int->Bool->Int->O R}:Tt N (tx z) K=K z true 0:=by
 have l:=jv d
 rw[IU];unfold VH
 have e:BH (tx z)=z:=by rw[Wi];exact JI z
 rw[bT (by rw[Wi];exact MV z) (f.le (by omega)),if_neg (by omega),e]
 show Wb N (RatD.av ⟨decide (z<0),.of (Bb z.natAbs) false false,.of [1] false false⟩) false _=_
 have c:RatD.can ⟨decide (z<0),.of (Bb z.natAbs) false false,.of [1] false false⟩ (z:Rat):=⟨by rw[Avh],by rw[Avh];rfl,by rw[Awe,T1];rfl⟩
 exact r4 c d (f.le (by
  rw[c.m]
  have:=Adn (v:=z) (by unfold smallI at d;omega)
  omega))
def xY{s:RB}{z c d:Int}{r:List Ah}(f:smallI z)(q:c<=z)(t:z<=d)(l:fit 1500 N)(h:At s.nw s.cw s.nx (tx z::r))(n:s.er=0){K:Int->Int->Int->O R}{Y:O R}(k:∀ x,At s.nw s.cw x r->K z x 0=Y):Ou N c d s K=Y:=by
 rw[Me];unfold Mw
 refine Ck h n fun x hx=>?_
 show Tt N (tx z) _=_
 rw[xX f l]
 show cond ((cond false true (decide (z<c)))==false) _ _=_
 rw[show decide (z<c)=false from decide_eq_false (by omega)]
 show cond (cond false true (decide (z>d))) _ _=_
 rw[show decide (z>d)=false from decide_eq_false (by omega)]
 exact k x hx
def Ae8{s:RB}{z:Int}{r:List Ah}(d:smallI z)(f:fit 1500 N)(h:At s.nw s.cw s.nx (tx z::r))(l:s.er=0){K:Int->Int->Int->O R}{Y:O R}(k:∀ x,At s.nw s.cw x r->K z x 0=Y):Te N s K=Y:=by
 rw[P2];unfold Ra
 exact xY d d.1 d.2 f h l k
def Apf{d n:Nat}(h:d<n):Ai (d:Int) n=true:=by unfold Ai;simp;omega
def gD{pre post:Lu}{c:UInt8}:List.getD (pre++c::post) pre.length 0=c:=by simp
def Ama(c:UInt8):Bool:=Dp c||decide (c.toNat=45)
def Ahx{n:Nat}{b pre post:Lu}{c:UInt8}{K:Int->O R}(q:b=pre++c::post)(t:b.length<=1000000000)(l:Ama c=true):
  G7 N K b (n+1) (pre.length:Int)=G7 N K b n ((pre.length+1:Nat):Int):=by
 have d:pre.length<b.length:=by rw[q];simp
 have s:List.getD b (pre.length:Int).toNat 0=c:=by rw[Auf,q];exact gD
 rw[G7];unfold Zc
 rw[s,Ig d,Apf d,Gx.wS (by omega)]
 unfold Ama Dp at l
 by_cases f:c.toNat=45
 ·rw[show decide ((c.toNat:Int)>=48)=false from decide_eq_false (by omega),f];rfl
 ·rw[decide_eq_false f,Awh]at l
  simp only[Auh,decide_eq_true_eq]at l
  rw[show decide ((c.toNat:Int)>=48)=true from decide_eq_true (by omega),show decide ((c.toNat:Int)<=57)=true from decide_eq_true (by omega)];rfl
def Aae{b:Lu}{K:Int->O R}(l:b.length<=1000000000):∀(w pre:Lu)(n:Nat),b=pre++w->w.all Ama=true ->
  G7 N K b (n+w.length) (pre.length:Int)=G7 N K b n (b.length:Int)
|[],pre,n,d,_=>by rw[d,Auk];rfl
|c::w,pre,n,d,f=>by
  simp only[Au5,Auh]at f
  have q:=Aae (K:=K) l w (pre++[c]) n (by rw[d];simp) f.2
  rw[Aua,Avc]at q
  rw[Aub,<-Avj,Ahx (post:=w) d l f.1,q]
def Adr{t:Lu}{K:Int->O R}(l:t.all Ama=true)(d:t≠[])(u:t.length<=1000000000)(hN:t.length+5<=N):MI N t K=K (t.length:Int):=by
 rw[bK];unfold PT
 have q:=Aae (R:=R) (N:=N) (K:=K) u t [] (N - t.length) rfl l
 rw[show N - t.length+t.length=N by omega,Aud]at q
 refine q.trans ?_
 obtain⟨n,hn⟩:∃ n,N - t.length=n+1:=⟨N - t.length - 1,by omega⟩
 rw[hn,G7];unfold Zc
 rw[Jr (Aui _)]
 show R4 N K t N (t.length:Int)=_
 obtain⟨m,v⟩:∃ m,N=m+1:=⟨N - 1,by omega⟩
 have un:∀ j,R4 N K t (j+1) (t.length:Int)=K (t.length:Int):=fun j=>by
  rw[R4];unfold KM
  obtain⟨r,z,hr⟩:∃ r z,t=r++[z]:=⟨t.dropLast,t.getLast d,(Axw d).symm⟩
  have f:Ama z=true:=Auv.1 l z (by rw[hr];simp)
  have s:t.length=r.length+1:=by rw[hr];simp
  rw[show decide ((t.length:Int)>0)=true from decide_eq_true (by omega),show wrap .i64 ((t.length:Int) - 1)=(r.length:Int) by rw[Gx.i64 (by omega)];omega,Apf (show r.length<t.length by omega),Auf,hr,gD]
  rw[show((z.toNat:Int)==47)=false by
   rw[beq_eq_false_iff_ne]
   unfold Ama Dp at f
   intro e
   have x:z.toNat=47:=by omega
   rw[x] at f;revert f;decide]
  rfl
 have:=un m
 rw[<-v]at this;exact this
def Aok{t:Lu}(h:QL t=true):t.all Ama=true:=by
 unfold QL at h
 have q:∀ r:Lu,r.all Dp=true->r.all Ama=true:=fun r hr=>Auv.2 fun x hx=>by
  unfold Ama;rw[Auv.1 hr x hx];rfl
 split at h
 ·rw[Au5,q _ h];rfl
 ·exact q _ h
def Ahy{z:Int}(f:smallI z)(d:fit 1500 N):∃ x:RatD,x.can (z:Rat)/\∀ K:LA->Int->O R,IW N (tx z) K=K x.av 0:=by
 have l:=jv f
 have hn:SP (tx z)=true:=by rw[Wi];exact MV z
 have hi:BH (tx z)=z:=by rw[Wi];exact JI z
 have n:=d.1
 have q:(Bb z.natAbs).length<=2:=by unfold smallI at f;exact YF (by omega)
 obtain⟨x,x1,x2⟩:=Ahw (R:=R) (N:=N) f.j (d.le (by omega))
 refine⟨x,x1,fun K=>?_⟩
 rw[RV];unfold PU
 rw[Aht hn (by omega),show(!true)=false by rfl,cf,iB (Aac (YJ hn)) (by omega) (by omega),decide_eq_false (by omega),cf,Gx.WL (YJ hn) (d.le (by omega)),Gx.WL (s:=[49]) (by decide) (d.le (by decide)),hi,show BH [49]=1 by decide,x2];rfl
def As1:LA:=[.int .i64 0,.int .i64 0,.int .i64 0,.int .i64 0]
def Apg{z:Int}(d:smallI z)(f:fit 2000 N):∃ x:RatD,x.can (z:Rat)/\∀ K:LA->LA->Int->O R,MJ N (tx z) K=K x.av As1 0:=by
 have l:=jv d
 have n:=f.1
 have hn:SP (tx z)=true:=by rw[Wi];exact MV z
 have hi:BH (tx z)=z:=by rw[Wi];exact JI z
 obtain⟨x,x1,x2⟩:=Ahy (R:=R) (N:=N) d (f.le (by omega))
 refine⟨x,x1,fun K=>?_⟩
 rw[gY];unfold YB
 rw[Adr (Aok (YJ hn)) (Ak5 z).1 (by omega) (by omega)]
 rw[show((decide ((0:Int)<=(0:Int)))&&((decide (0<=(((tx z).length:Nat):Int)))&&((decide ((((tx z).length:Nat):Int)<=(((tx z).length:Nat):Int)))&&(decide ((((tx z).length:Nat):Int)<=(((tx z).length:Nat):Int))))))=true by simp,ct,Auf,Avl,x2]
 rw[Asv,ct,show((0:Int) != 0)=false from rfl,cf]
 rw[show((decide (0<=(((tx z).length:Nat):Int)))&&((decide ((((tx z).length:Nat):Int)<=(((tx z).length:Nat):Int)))&&((decide ((((tx z).length:Nat):Int)<=(((tx z).length:Nat):Int)))&&(decide ((((tx z).length:Nat):Int)<=(((tx z).length:Nat):Int))))))=true by simp,ct]
 rw[List.drop_length,Nat.sub_self,show take 0 ([]:Lu)=[]from rfl,show(([]:Lu)==[])=true from rfl,ct]
 rfl
def Anb(z:Int):∃ r c,tx z=r++[c]/\Dp c=true:=by
 have f:∀ n:Nat,∃ r c,dec n=r++[c]/\Dp c=true:=fun n =>
  ⟨_,_,(Axw (d8 n)).symm,Auv.1 (MU n) _ (List.getLast_mem _)⟩
 obtain⟨r,c,e,h⟩:=f z.natAbs
 rw[Wi];unfold js zy
 by_cases d:z<0
 ·rw[if_pos d,e];exact⟨45::r,c,rfl,h⟩
 ·rw[if_neg d,e];exact⟨r,c,rfl,h⟩
def Aph(z:Int):(tx z).all Ama=true:=Aok (YJ (by rw[Wi];exact MV z))
def Aqv(z:Int):(47:UInt8)∉tx z:=fun h=>by
 have:=Auv.1 (Aph z) _ h
 revert this;decide
def Ak9{z:Int}(h:0<=z):∃ c r,tx z=c::r/\Dp c=true:=by
 rw[Wi];unfold js zy
 rw[if_neg (by omega)]
 cases e:dec z.natAbs with
|nil=>exact absurd e (d8 _)
|cons c r=>exact⟨c,r,rfl,Auv.1 (MU z.natAbs) c (by rw[e];simp)⟩
def YL{s:RB}{z:Int}{b:LA}{o:Bool}{r:List Ah}(d:smallI z)(f:fit 2000 N)(h:At s.nw s.cw s.nx (tx z::r))(q:s.er=0){K:Int->Int->Int->O R}{Y:O R}(k:∀ x,At s.nw s.cw x r->K z x 0=Y):C0 N b o s K=Y:=by
 rw[Kv];unfold Hk
 refine Ck h q fun x hx=>?_
 obtain⟨y,y1,y2⟩:=Apg (R:=R) (N:=N) d f
 have t:=jv d
 obtain⟨p,c,e,l⟩:=Anb z
 have n:(tx z).length=p.length+1:=by rw[e];simp
 show MJ N (tx z) _=_
 rw[y2]
 show cond (Ai (wrap .i64 ((((tx z).length:Nat):Int) - 1)) (tx z).length) _ _=_
 rw[show wrap .i64 (((tx z).length:Int) - 1)=(p.length:Int) by rw[Gx.i64 (by omega)];omega,Apf (show p.length<(tx z).length by omega),ct,Auf]
 rw[show List.getD (tx z) p.length 0=c by rw[e];exact gD]
 unfold Dp at l
 simp only[Auh,decide_eq_true_eq]at l
 rw[show decide ((c.toNat:Int)<48)=false from decide_eq_false (by omega),show decide ((c.toNat:Int)>57)=false from decide_eq_false (by omega)]
 show Hx N K s x 0 y.av=_
 unfold Hx
 rw[tJ,ct,bO,r4 y1 d (f.le (by
  rw[y1.m]
  have:=Adn (v:=z) (by unfold smallI at d;omega)
  omega))]
 exact k x hx
def Aaf{s:RB}{b:LA}{o:Bool}(d:s.er≠0){K:Int->Int->Int->O R}{Y:O R}(k:K 0 s.nx s.er=Y):C0 N b o s K=Y:=by
 rw[Kv];unfold Hk
 exact gn d k
def Fn(f:FracD):Prop:=smallI f.num/\smallI f.den/\1<=f.den
def QM{s:RB}{f:FracD}{r:List Ah}(t:Fn f)(d:fit 2000 N)(h:At s.nw s.cw s.nx (Iz f::r))(u:s.er=0){K:LA->Int->Int->O R}{Y:O R}(k:∀ x,At s.nw s.cw x r->K [.int .i64 f.num,.int .i64 f.den] x 0=Y):Bx N s K=Y:=by
 obtain⟨l,n,v⟩:=t
 rw[Pg];unfold I9
 refine Ck h u fun x hx=>?_
 have l1:=jv l
 have l2:=jv n
 show strings_Cut N (Iz f) [47] _=_
 rw[Ak8 (by unfold Iz;rw[Aua,Aub];omega)]
 unfold Iz
 rw[Ak7 (Aqv f.num)]
 show Tt N (tx f.num) _=_
 rw[xX l (d.le (by omega))]
 show Hc N K f.num true s x 0 (tx f.den)=_
 unfold Hc Pf
 rw[xX n (d.le (by omega))]
 obtain⟨c,w,e,q⟩:=Ak9 (show 0<=f.den by omega)
 unfold Dp at q
 simp only[Auh,decide_eq_true_eq]at q
 rw[e]
 rw[show Ai 0 (c::w).length=true by unfold Ai;simp,show(((UInt8.toNat (List.getD (c::w) 0 0):Nat):Int)==45)=false by
  rw[beq_eq_false_iff_ne];show ¬ (c.toNat:Int)=45;omega]
 show Ky N K f.num true f.den true s x 0=_
 unfold Ky
 rw[show decide (f.den<1)=false from decide_eq_false (by omega)]
 exact k x hx
def r5{s:RB}(d:s.er≠0){K:LA->Int->Int->O R}{Y:O R}(k:K [.int .i64 0,.int .i64 0] s.nx s.er=Y):Bx N s K=Y:=by
 rw[Pg];unfold I9
 exact gn d k
def r6{l:List Ah}{d f:Bool}(s:l.length<=1000000)(hn:l.Nodup){i:Nat}(hi:i<l.length){K:Int->O R}:∀(m j fuel:Nat),j+m=i->l.length<fuel+j ->
  A4 N K (A9 l) l.length d f l[i] fuel (l.length:Int) (j:Int)=K (i:Int)
|0,j,0,n,q=>by omega
|m+1,j,0,n,q=>by omega
|0,j,fuel+1,n,_=>by
  have:j=i:=by omega
  subst this
  rw[A4];unfold Bp
  rw[Ig hi,ct,Ab hi,ct,Auf,Auz,Ke hi,beq_self_eq_true,ct]
| m+1,j,fuel+1,n,q=>by
  have h:j<l.length:=by omega
  have e:¬ l[i]=l[j]:=fun e=>by
   have:=(List.getElem_inj hn).1 e
   omega
  rw[A4];unfold Bp
  rw[Ig h,ct,Ab h,ct,Auf,Auz,Ke h,beq_false_of_ne e,cf,DJ (by omega)]
  exact r6 s hn hi m (j+1) fuel (by omega) (by omega)
def MW{l:List Ah}{n:Nat}{d f:Bool}(hN:1000000000<N)(hn:n=l.length)(q:l.length<=1000000)(s:l.Nodup){i:Nat}(hi:i<l.length){K:Int->O R}:Av N (A9 l) n d f l[i] K=K (i:Int):=by
 subst hn
 rw[Dv];unfold Ci
 exact r6 q s hi i 0 N (by omega) (by omega)
def Ala{s:RB}{w:Ah}{r ns:List Ah}(hN:1000000000<N)(d:A7 w=true)(f:w∉ns)(t:ns.length<32)(l:s.zB=ns.length)(n:s.yB=A9 ns)(h:At s.nw s.cw s.nx (w::r))(q:s.er=0){K:Int->Int->O R}{L:Lu->Int->Int->Nat->LA->O R}{Y:O R}(k:∀ x,At s.nw s.cw x r->L w x 0 (ns++[w]).length (A9 (ns++[w]))=Y):Q8 N s K L=Y:=by
 rw[Uf];unfold Tv
 refine Ck h q fun x hx=>?_
 show Mf N w _=_
 rw[R8 (by omega),d]
 show Ap N _ _ _ _ _ _=_
 rw[l,n,Ff,U0 hN rfl (by omega),show ns.contains w=false by simpa using f,cf,Q6]
 show cond (decide ((ns.length:Int)>=32)) _ _=_
 rw[show decide ((ns.length:Int)>=32)=false from decide_eq_false (by omega),cf,BG (by omega),ct,Io]
 have e:ns.length+1=(ns++[w]).length:=by simp
 rw[e]
 exact k x hx
def Ahz{s:RB}(h:At s.nw s.cw s.nx [])(d:s.er=0){K:Int->Int->O R}{L:Lu->Int->Int->Nat->LA->O R}{Y:O R}(k:K s.nx 2=Y):Q8 N s K L=Y:=by
 rw[Uf];unfold Tv
 exact qx h d k
def Aag{s:RB}{w:Ah}{r ns:List Ah}(hN:1000000000<N)(d:A7 w=true)(f:w∉ns)(t:ns.length<64)(l:s.zC=ns.length)(n:s.yC=A9 ns)(h:At s.nw s.cw s.nx (w::r))(q:s.er=0){K:Int->Int->O R}{L:Lu->Int->Int->Nat->LA->O R}{Y:O R}(k:∀ x,At s.nw s.cw x r->L w x 0 (ns++[w]).length (A9 (ns++[w]))=Y):Kx N s K L=Y:=by
 rw[Pe];unfold N6
 refine Ck h q fun x hx=>?_
 show Mf N w _=_
 rw[R8 (by omega),d]
 show Ap N _ _ _ _ _ _=_
 rw[l,n,Ff,U0 hN rfl (by omega),show ns.contains w=false by simpa using f,cf,Q6]
 show cond (decide ((ns.length:Int)>=64)) _ _=_
 rw[show decide ((ns.length:Int)>=64)=false from decide_eq_false (by omega),cf,BG (by omega),ct,Io]
 have e:ns.length+1=(ns++[w]).length:=by simp
 rw[e]
 exact k x hx
def Ah0{s:RB}(h:At s.nw s.cw s.nx [])(d:s.er=0){K:Int->Int->O R}{L:Lu->Int->Int->Nat->LA->O R}{Y:O R}(k:K s.nx 2=Y):Kx N s K L=Y:=by
 rw[Pe];unfold N6
 exact qx h d k
def Alb{s:RB}{w:Ah}{r ns:List Ah}(hN:1000000000<N)(d:A7 w=true)(f:w∉ns)(t:ns.length<16)(l:s.zD=ns.length)(n:s.yD=A9 ns)(h:At s.nw s.cw s.nx (w::r))(q:s.er=0){K:Int->Int->O R}{L:Lu->Int->Int->Nat->LA->O R}{Y:O R}(k:∀ x,At s.nw s.cw x r->L w x 0 (ns++[w]).length (A9 (ns++[w]))=Y):P3 N s K L=Y:=by
 rw[Wx];unfold Ui
 refine Ck h q fun x hx=>?_
 show Mf N w _=_
 rw[R8 (by omega),d]
 show Ap N _ _ _ _ _ _=_
 rw[l,n,Ff,U0 hN rfl (by omega),show ns.contains w=false by simpa using f,cf,Q6]
 show cond (decide ((ns.length:Int)>=16)) _ _=_
 rw[show decide ((ns.length:Int)>=16)=false from decide_eq_false (by omega),cf,BG (by omega),ct,Io]
 have e:ns.length+1=(ns++[w]).length:=by simp
 rw[e]
 exact k x hx
def Alc{s:RB}{w:Ah}{r ns:List Ah}(hN:1000000000<N)(d:A7 w=true)(f:w∉ns)(t:ns.length<8)(l:s.zE=ns.length)(n:s.yE=A9 ns)(h:At s.nw s.cw s.nx (w::r))(q:s.er=0){K:Int->Int->O R}{L:Lu->Int->Int->Nat->LA->O R}{Y:O R}(k:∀ x,At s.nw s.cw x r->L w x 0 (ns++[w]).length (A9 (ns++[w]))=Y):P5 N s K L=Y:=by
 rw[Wy];unfold Uj
 refine Ck h q fun x hx=>?_
 show Mf N w _=_
 rw[R8 (by omega),d]
 show Ap N _ _ _ _ _ _=_
 rw[l,n,Ff,U0 hN rfl (by omega),show ns.contains w=false by simpa using f,cf,Q6]
 show cond (decide ((ns.length:Int)>=8)) _ _=_
 rw[show decide ((ns.length:Int)>=8)=false from decide_eq_false (by omega),cf,BG (by omega),ct,Io]
 have e:ns.length+1=(ns++[w]).length:=by simp
 rw[e]
 exact k x hx
def Ald{s:RB}{w:Ah}{r ns:List Ah}(hN:1000000000<N)(d:A7 w=true)(f:w∉ns)(t:ns.length<8)(l:s.zF=ns.length)(n:s.yF=A9 ns)(h:At s.nw s.cw s.nx (w::r))(q:s.er=0){K:Int->Int->O R}{L:Lu->Int->Int->Nat->LA->O R}{Y:O R}(k:∀ x,At s.nw s.cw x r->L w x 0 (ns++[w]).length (A9 (ns++[w]))=Y):P6 N s K L=Y:=by
 rw[Wz];unfold Uk
 refine Ck h q fun x hx=>?_
 show Mf N w _=_
 rw[R8 (by omega),d]
 show Ap N _ _ _ _ _ _=_
 rw[l,n,Ff,U0 hN rfl (by omega),show ns.contains w=false by simpa using f,cf,Q6]
 show cond (decide ((ns.length:Int)>=8)) _ _=_
 rw[show decide ((ns.length:Int)>=8)=false from decide_eq_false (by omega),cf,BG (by omega),ct,Io]
 have e:ns.length+1=(ns++[w]).length:=by simp
 rw[e]
 exact k x hx
def Aah{s:RB}{w:Ah}{r ns:List Ah}(hN:1000000000<N)(d:A7 w=true)(f:w∉ns)(t:ns.length<64)(l:s.zG=ns.length)(n:s.yG=A9 ns)(h:At s.nw s.cw s.nx (w::r))(q:s.er=0){L:Lu->Int->Int->Nat->LA->O R}{Y:O R}(k:∀ x,At s.nw s.cw x r->L w x 0 (ns++[w]).length (A9 (ns++[w]))=Y):P7 N s L=Y:=by
 rw[W1];unfold Ul
 refine Ck h q fun x hx=>?_
 show Mf N w _=_
 rw[R8 (by omega),d]
 show Ap N _ _ _ _ _ _=_
 rw[l,n,Ff,U0 hN rfl (by omega),show ns.contains w=false by simpa using f,cf,Q6]
 show cond (decide ((ns.length:Int)>=64)) _ _=_
 rw[show decide ((ns.length:Int)>=64)=false from decide_eq_false (by omega),cf,BG (by omega),ct,Io]
 have e:ns.length+1=(ns++[w]).length:=by simp
 rw[e]
 exact k x hx
def Yb{s:RB}{i:Int}{r ns:List Ah}(hN:1000000000<N)(f:ns.Nodup)(u:0<=i)(hi:i<(ns.length:Int))(l:ns.length<=1000000)(n:s.zB=ns.length)(q:s.yB=A9 ns)(h:At s.nw s.cw s.nx (Ay ns i::r))(t:s.er=0){K:Int->Int->Int->O R}{Y:O R}(k:∀ x,At s.nw s.cw x r->K i x 0=Y):B8 N s K=Y:=by
 rw[Sk];unfold R6
 refine Ck h t fun x hx=>?_
 show Av N _ _ _ _ _ _=_
 have d:i.toNat<ns.length:=by omega
 rw[n,q,Ff,show Ay ns i=ns[i.toNat] by unfold Ay;rw[Auo,Aug d];rfl,MW hN rfl l f d,show(i.toNat:Int)=i by omega,show decide (i<0)=false from decide_eq_false (by omega),cf]
 exact k x hx
def r7{s:RB}(d:s.er≠0){K:Int->Int->Int->O R}{Y:O R}(k:K 0 s.nx s.er=Y):B8 N s K=Y:=by
 rw[Sk];unfold R6
 exact gn d k
def ua{s:RB}{i:Int}{r ns:List Ah}(hN:1000000000<N)(f:ns.Nodup)(u:0<=i)(hi:i<(ns.length:Int))(l:ns.length<=1000000)(n:s.zC=ns.length)(q:s.yC=A9 ns)(h:At s.nw s.cw s.nx (Ay ns i::r))(t:s.er=0){K:Int->Int->Int->O R}{Y:O R}(k:∀ x,At s.nw s.cw x r->K i x 0=Y):Jb N s K=Y:=by
 rw[Ob];unfold Mg
 refine Ck h t fun x hx=>?_
 show Av N _ _ _ _ _ _=_
 have d:i.toNat<ns.length:=by omega
 rw[n,q,Ff,show Ay ns i=ns[i.toNat] by unfold Ay;rw[Auo,Aug d];rfl,MW hN rfl l f d,show(i.toNat:Int)=i by omega,show decide (i<0)=false from decide_eq_false (by omega),cf]
 exact k x hx
def jw{s:RB}{i:Int}{r ns:List Ah}(hN:1000000000<N)(f:ns.Nodup)(u:0<=i)(hi:i<(ns.length:Int))(l:ns.length<=1000000)(n:s.zD=ns.length)(q:s.yD=A9 ns)(h:At s.nw s.cw s.nx (Ay ns i::r))(t:s.er=0){K:Int->Int->Int->O R}{Y:O R}(k:∀ x,At s.nw s.cw x r->K i x 0=Y):Jc N s K=Y:=by
 rw[Oc];unfold Mh
 refine Ck h t fun x hx=>?_
 show Av N _ _ _ _ _ _=_
 have d:i.toNat<ns.length:=by omega
 rw[n,q,Ff,show Ay ns i=ns[i.toNat] by unfold Ay;rw[Auo,Aug d];rfl,MW hN rfl l f d,show(i.toNat:Int)=i by omega,show decide (i<0)=false from decide_eq_false (by omega),cf]
 exact k x hx
def Fg{s:RB}{z:Int}{r:List Ah}(d:smallI z)(f:fit 2000 N)(h:At s.nw s.cw s.nx (tx z::r))(l:s.er=0){K:Int->Int->Int->O R}{Y:O R}(k:∀ x,At s.nw s.cw x r->K z x 0=Y):A3 N s K=Y:=by
 rw[N5];unfold Ov
 exact YL d f h l k
def DY{s:RB}(d:s.er≠0){K:Int->Int->Int->O R}{Y:O R}(k:K 0 s.nx s.er=Y):A3 N s K=Y:=by
 rw[N5];unfold Ov
 exact Aaf d k
def iD{s:RB}{z:Int}{r:List Ah}(d:smallI z)(f:fit 2000 N)(h:At s.nw s.cw s.nx (tx z::r))(l:s.er=0){K:Int->Int->Int->O R}{Y:O R}(k:∀ x,At s.nw s.cw x r->K z x 0=Y):Fw N s K=Y:=by
 rw[Ug];unfold Tx
 exact YL d f h l k
def Ah1{s:RB}(d:s.er≠0){K:Int->Int->Int->O R}{Y:O R}(k:K 0 s.nx s.er=Y):Fw N s K=Y:=by
 rw[Ug];unfold Tx
 exact Aaf d k
def Anc{s:RB}{z:Int}{r:List Ah}(d:smallI z)(f:fit 2000 N)(h:At s.nw s.cw s.nx (tx z::r))(l:s.er=0){K:Int->Int->Int->O R}{Y:O R}(k:∀ x,At s.nw s.cw x r->K z x 0=Y):Zd N s K=Y:=by
 rw[I_];unfold GJ
 exact YL d f h l k
def iE{s:RB}{z:Int}{r:List Ah}(d:smallI z)(f:fit 2000 N)(h:At s.nw s.cw s.nx (tx z::r))(l:s.er=0){K:Int->Int->Int->O R}{Y:O R}(k:∀ x,At s.nw s.cw x r->K z x 0=Y):Ii N s K=Y:=by
 rw[JA];unfold GK
 exact YL d f h l k
def Aai{s:RB}{z:Int}{r:List Ah}(d:smallI z)(f:fit 2000 N)(h:At s.nw s.cw s.nx (tx z::r))(l:s.er=0){K:Int->Int->Int->O R}{Y:O R}(k:∀ x,At s.nw s.cw x r->K z x 0=Y):Rb N s K=Y:=by
 rw[GL];unfold BF
 exact YL d f h l k
def jx{s:RB}{z:Int}{r:List Ah}(d:smallI z)(f:fit 2000 N)(h:At s.nw s.cw s.nx (tx z::r))(l:s.er=0){K:Int->Int->Int->O R}{Y:O R}(k:∀ x,At s.nw s.cw x r->K z x 0=Y):Et N s K=Y:=by
 rw[CF];unfold X7
 exact YL d f h l k
def iF{n:Nat}(h:n<=2000000000):((ble n 140737488355328)&&(ble (n*8) 140737488355328))=true:=by simp;omega
def Yc(l:List Int):take (l.length*1) (A0 l)=A0 l:=by rw[Auz,Aue (by rw[J7];exact Aui _)]
def DZ(l:List Int)(z:Int):A0 l++[.int .i64 z]=A0 (l++[z]):=by rw[<-TN];rfl
def Hf{α:Type}(l:List α)(z:α):l.length+1=(l++[z]).length:=by simp
def xZ{nw:Nat}{cw:LA}{nx:Int}{r:List Ah}(h:At nw cw nx r):r.length<=2000000:=by
 obtain⟨p,e1,d,e3,e4⟩:=h
 rw[Aua]at e4;omega
def AO(l:List Int):(AV.imm (take (l.length*1) (A0 l)) l.length 1 false false)=Sl.av 1 Sr (.of l false false):=by rw[Yc];show _=AV.imm (l.flatMap Sr) l.length 1 false false;rw[Co]
def r8{s:RB}(n:fit 2000 N){r:List Ah}{K:Nat->Int->Int->LA->O R}{Y:O R}:∀(l pre:List Int)(fuel:Nat)(x:Int),(∀ z∈l,smallI z)->l.length<fuel->pre.length+l.length<=1000000->((pre.length+l.length:Nat):Int)=s.th->At s.nw s.cw x (l.map tx++r)->(∀ y,At s.nw s.cw y r->K (pre++l).length y 0 (A0 (pre++l))=Y)->B0 N K s fuel pre.length (pre.length:Int) x 0 (A0 pre)=Y
|[],pre,fuel+1,x,d,q,t,f,h,k=>by
  rw[B0];unfold Fd
  rw[<-f]
  rw[Aud,Awu,Jr (Aui _),cf]
  have:=k x h
  rw[Auk]at this
  exact this
|z::l,pre,fuel+1,x,d,q,t,f,h,k=>by
  have hL:=xZ h
  rw[Aua,Auc,Aub]at hL
  rw[Aub]at q f t
  rw[B0];unfold Fd
  rw[show decide ((pre.length:Int)<s.th)=true from decide_eq_true (by omega),ct]
  refine Fg (d z (Avk ..)) n h rfl fun y v=>?_
  show cond _ (B0 N K s fuel _ _ y 0 _) none=_
  rw[iF (by omega),ct,DJ (by omega),Yc,DZ,Hf pre z]
  have A:(pre++[z]).length=pre.length+1:=by simp
  refine r8 n l (pre++[z]) fuel y (fun w C=>d w (Au2 _ C)) (by omega) (by omega) (by omega) v fun u D=>?_
  have:=k u D
  rw[Aye]at this
  exact this
def MX{s:RB}(d:fit 2000 N)(hN:1000000000<N){l:List Int}{r:List Ah}(f:∀ z∈l,smallI z)(t:l.length<=1000)(n:(l.length:Int)=s.th)(h:At s.nw s.cw s.nx (l.map tx++r))(q:s.er=0){K:Nat->Int->Int->LA->O R}{Y:O R}(k:∀ x,At s.nw s.cw x r->K l.length x 0 (A0 l)=Y):Ch N s K=Y:=by
 rw[Q5];unfold Kw
 rw[q]
 exact r8 d l [] N s.nx f (by omega) (by rw[Aud];omega) (by rw[Aud,Aux];exact n) h k
def bU{s:RB}(n:fit 2000 N){r:List Ah}{K:Nat->Int->Int->LA->O R}{Y:O R}:∀(l pre:List Int)(fuel:Nat)(x:Int),(∀ z∈l,smallI z)->l.length<fuel->pre.length+l.length<=1000000->((pre.length+l.length:Nat):Int)=s.th->At s.nw s.cw x (l.map tx++r)->(∀ y,At s.nw s.cw y r->K (pre++l).length y 0 (A0 (pre++l))=Y)->Cj N K s fuel pre.length (pre.length:Int) x 0 (A0 pre)=Y
|[],pre,fuel+1,x,d,q,t,f,h,k=>by
  rw[Cj];unfold Hl
  rw[<-f]
  rw[Aud,Awu,Jr (Aui _),cf]
  have:=k x h
  rw[Auk]at this
  exact this
|z::l,pre,fuel+1,x,d,q,t,f,h,k=>by
  have hL:=xZ h
  rw[Aua,Auc,Aub]at hL
  rw[Aub]at q f t
  rw[Cj];unfold Hl
  rw[show decide ((pre.length:Int)<s.th)=true from decide_eq_true (by omega),ct]
  refine iD (d z (Avk ..)) n h rfl fun y v=>?_
  show cond _ (Cj N K s fuel _ _ y 0 _) none=_
  rw[iF (by omega),ct,DJ (by omega),Yc,DZ,Hf pre z]
  have A:(pre++[z]).length=pre.length+1:=by simp
  refine bU n l (pre++[z]) fuel y (fun w C=>d w (Au2 _ C)) (by omega) (by omega) (by omega) v fun u D=>?_
  have:=k u D
  rw[Aye]at this
  exact this
def x4{s:RB}(d:fit 2000 N)(hN:1000000000<N){l:List Int}{r:List Ah}(f:∀ z∈l,smallI z)(t:l.length<=1000)(n:(l.length:Int)=s.th)(h:At s.nw s.cw s.nx (l.map tx++r))(q:s.er=0){K:Nat->Int->Int->LA->O R}{Y:O R}(k:∀ x,At s.nw s.cw x r->K l.length x 0 (A0 l)=Y):F3 N s K=Y:=by
 rw[Uy];unfold K3
 rw[q]
 exact bU d l [] N s.nx f (by omega) (by rw[Aud];omega) (by rw[Aud,Aux];exact n) h k
def Aaj{s:RB}{a:Ah}(f:fit 2000 N){r:List Ah}{K:Nat->Int->Int->LA->O R}{Y:O R}(n:∀ z:Int,tx z≠a)(hr:∀ w∈r.head?,w=a):∀(l pre:List Int)(fuel:Nat)(x:Int),(∀ z∈l,smallI z)->l.length<fuel->pre.length+l.length<=2000000->At s.nw s.cw x (l.map tx++r)->(∀ y,At s.nw s.cw y r->K (pre++l).length y 0 (A0 (pre++l))=Y)->B9 N K a s fuel pre.length x 0 (A0 pre)=Y
| [],pre,fuel+1,x,d,q,t,h,k=>by
  rw[B9];unfold D0
  have fin:K pre.length x 0 (A0 pre)=Y:=by
   have:=k x h
   rw[Auk]at this
   exact this
  cases r with
  |nil=>exact l_ (s:={s with nx:=x,er:=0}) h rfl fin
  |cons w r =>
   refine Jd (s:={s with nx:=x,er:=0}) (a:=a) h rfl ?_
   rw[hr w rfl,beq_self_eq_true]
   exact fin
|z::l,pre,fuel+1,x,d,q,t,h,k=>by
  rw[Aub]at q t
  rw[B9];unfold D0
  refine Jd (s:={s with nx:=x,er:=0}) (a:=a) h rfl ?_
  rw[beq_false_of_ne (n z)]
  refine Ae8 (s:={s with nx:=x,er:=0}) (d z (Avk ..)) (f.le (by omega)) h rfl fun y v=>?_
  rw[iF (by omega),ct,Yc,DZ,Hf pre z]
  have A:(pre++[z]).length=pre.length+1:=by simp
  refine Aaj f n hr l (pre++[z]) fuel y (fun w C=>d w (Au2 _ C)) (by omega) (by omega) v fun u D=>?_
  have:=k u D
  rw[Aye]at this
  exact this
def Ae9{s:RB}{a:Ah}(d:fit 2000 N)(hN:1000000000<N)(f:∀ z:Int,tx z≠a){l:List Int}{r:List Ah}(hr:∀ w∈r.head?,w=a)(n:∀ z∈l,smallI z)(h:At s.nw s.cw s.nx (l.map tx++r))(q:s.er=0){K:Nat->Int->Int->LA->O R}{Y:O R}(k:∀ x,At s.nw s.cw x r->K l.length x 0 (A0 l)=Y):Ja N a s K=Y:=by
 rw[N7];unfold J3
 rw[q]
 have hL:=xZ h
 rw[Aua,Auc]at hL
 exact Aaj d f hr l [] N s.nx n (by omega) (by rw[Aud];omega) h k
def Ale{s:RB}{z:Int}{r:List Ah}(f:z=0\/z=1\/z=2)(h:At s.nw s.cw s.nx (Xi z++r))(d:s.er=0){K:Int->Int->Int->O R}{Y:O R}(k:∀ x,At s.nw s.cw x r->K z x 0=Y):Ty N s K=Y:=by
 rw[CE];unfold X0
 rcases f with rfl|rfl|rfl
 ·exact Ck (w:=Aep) h d fun x hx=>k x hx
 ·exact Ck (w:=OG) h d fun x hx=>k x hx
 ·exact Ck (w:=Amm) h d fun x hx=>k x hx
def AP{n k:Nat}(h:n<=2000000000)(d:k<=1000):((ble n 140737488355328)&&(ble (n*k) 140737488355328))=true:=by
 have:n*k<=2000000000*1000:=Ay5 h d
 simp;omega
def Amb{α:Type}(l:Sl α):Sl α:=.of l.l false false
def mL(b:BusD):BusD:={b with demand:=Amb b.demand}
def AQ(l:LineD):LineD:={l with away:=Amb l.away}
def x5(t:TieD):TieD:={t with imp:=Amb t.imp,exp:=Amb t.exp,price:=Amb t.price}
def Ara(s:RB)(l:Sl Int):Prop:=(l.l.length:Int)=s.th/\l.l.length<=1000/\∀ z∈l.l,smallI z
def Ads(z:Int):tx z≠[]:=(Ak5 z).1
def Alf{s:RB}{b:BusD}{ns B r:List Ah}(f:fit 2000 N)(hN:1000000000<N)(n:A7 b.name=true)(q:b.name∉ns)(t:ns.length<32)(u:s.zB=ns.length)(v:s.yB=A9 ns)(hn:s.nB<=1000000)(hdemand:Ara s b.demand)(d:smallI b.shed)(h:At s.nw s.cw s.nx (b.name::Qn::(b.demand.l.map tx++(cW::tx b.shed::r))))(y:s.er=0){K:Int->Int->Nat->Nat->LA->LA->O R}{Y:O R}(k:∀ x,At s.nw s.cw x r->K x 0 (s.nB+1) (ns++[b.name]).length (s.cB.take (s.nB*3)++(mL b).av) (A9 (ns++[b.name]))=Y):Td N s K=Y:=by
 rw[Wd];unfold Wc
 refine Ala hN n q t u v h y fun x h=>?_
 refine Bu (w:=Qn) h rfl fun x h=>?_
 refine MX f hN hdemand.2.2 hdemand.2.1 (by exact hdemand.1) h rfl fun x h=>?_
 refine Bu (w:=cW) h rfl fun x h=>?_
 refine iD d f h rfl fun x h=>?_
 rw[AP (by omega) (by omega),ct,AO]
 exact k x h
def Aak{s:RB}{u:StoreD}{ns B r:List Ah}(l:fit 2000 N)(hN:1000000000<N)(q:A7 u.name=true)(t:u.name∉ns)(v:ns.length<8)(y:s.zE=ns.length)(z:s.yE=A9 ns)(hn:s.nS<=1000000)(hB:B.Nodup)(hBl:B.length<=1000000)(hzB:s.zB=B.length)(hyB:s.yB=A9 B)(f:0<=u.bus/\u.bus<(B.length:Int))(hcapacity:smallI u.capacity)(hinitial:smallI u.initial)(d:smallI u.final)(hcharge:smallI u.charge)(hdischarge:smallI u.discharge)(n:Fn u.eff)(h:At s.nw s.cw s.nx (u.name::Ay B u.bus::Qp::tx u.capacity::fN::tx u.initial::tx u.final::pd::tx u.charge::tx u.discharge::Vi::Iz u.eff::r))(A:s.er=0){K:Int->Int->Nat->Nat->LA->LA->O R}{Y:O R}(k:∀ x,At s.nw s.cw x r->K x 0 (s.nS+1) (ns++[u.name]).length (s.cS.take (s.nS*9)++u.av) (A9 (ns++[u.name]))=Y):T0 N s K=Y:=by
 rw[CG];unfold X8
 refine Alc hN q t v y z h A fun x h=>?_
 refine Yb hN hB (f:_/\_).1 f.2 hBl (by exact hzB) (by exact hyB) h rfl fun x h=>?_
 refine Bu (w:=Qp) h rfl fun x h=>?_
 refine jx hcapacity l h rfl fun x h=>?_
 refine Bu (w:=fN) h rfl fun x h=>?_
 refine jx hinitial l h rfl fun x h=>?_
 refine jx d l h rfl fun x h=>?_
 refine Bu (w:=pd) h rfl fun x h=>?_
 refine Fg hcharge l h rfl fun x h=>?_
 refine Fg hdischarge l h rfl fun x h=>?_
 refine Bu (w:=Vi) h rfl fun x h=>?_
 refine QM n l h rfl fun x h=>?_
 show cond (_&&_) (K x 0 (s.nS+1) _ (s.cS.take (s.nS*9)++u.av) _) none=_
 rw[AP (by omega) (by omega),ct]
 exact k x h
def Alg{s:RB}{t:TieD}{ns B r:List Ah}(u:fit 2000 N)(hN:1000000000<N)(v:A7 t.name=true)(y:t.name∉ns)(z:ns.length<8)(A:s.zF=ns.length)(C:s.yF=A9 ns)(hn:s.nT<=1000000)(hB:B.Nodup)(hBl:B.length<=1000000)(hzB:s.zB=B.length)(hyB:s.yB=A9 B)(q:0<=t.bus/\t.bus<(B.length:Int))(f:Ara s t.imp)(n:Ara s t.exp)(d:Ara s t.price)(h:At s.nw s.cw s.nx (t.name::Ay B t.bus::Sw::(t.imp.l.map tx++(EZ::(t.exp.l.map tx++(OH::(t.price.l.map tx++r)))))))(D:s.er=0){K:Int->Int->Nat->Nat->LA->LA->O R}{Y:O R}(k:∀ x,At s.nw s.cw x r->K x 0 (s.nT+1) (ns++[t.name]).length (s.cT.take (s.nT*5)++(x5 t).av) (A9 (ns++[t.name]))=Y):Ze N s K=Y:=by
 rw[JC];unfold GN
 refine Ald hN v y z A C h D fun x h=>?_
 refine Yb hN hB (q:_/\_).1 q.2 hBl (by exact hzB) (by exact hyB) h rfl fun x h=>?_
 refine Bu (w:=Sw) h rfl fun x h=>?_
 refine MX u hN f.2.2 f.2.1 (by exact f.1) h rfl fun x h=>?_
 refine Bu (w:=EZ) h rfl fun x h=>?_
 refine MX u hN n.2.2 n.2.1 (by exact n.1) h rfl fun x h=>?_
 refine Bu (w:=OH) h rfl fun x h=>?_
 refine x4 u hN d.2.2 d.2.1 (by exact d.1) h rfl fun x h=>?_
 rw[AP (by omega) (by omega),ct,AO,AO,AO]
 exact k x h
def Ane{s:RB}{l:LineD}{ns B r:List Ah}(u:fit 2000 N)(hN:1000000000<N)(C:A7 l.name=true)(D:l.name∉ns)(F:ns.length<64)(G:s.zC=ns.length)(I:s.yC=A9 ns)(hn:s.nL<=1000000)(hB:B.Nodup)(hBl:B.length<=1000000)(hzB:s.zB=B.length)(hyB:s.yB=A9 B)(v:0<=l.fr/\l.fr<(B.length:Int))(y:0<=l.tl/\l.tl<(B.length:Int))(A:Fn l.re)(f:Fn l.smin)(n:Fn l.smax)(d:smallI l.limit)(q:smallI l.emer)(t:∀ z∈l.away.l,smallI z)(hr:∀ w∈r.head?,w=([]:Ah))(h:At s.nw s.cw s.nx (l.name::Ay B l.fr::Ay B l.tl::Al8::Iz l.re::OE::Iz l.smin::Iz l.smax::OF::tx l.limit::tx l.emer::Xh::(l.away.l.map tx++r)))(M:s.er=0){K:Int->Int->Nat->Nat->LA->LA->O R}{Y:O R}(k:∀ x,At s.nw s.cw x r->K x 0 (s.nL+1) (ns++[l.name]).length (s.cL.take (s.nL*12)++(AQ l).av) (A9 (ns++[l.name]))=Y):Mz N s K=Y:=by
 rw[N8];unfold Ow
 refine Aag hN C D F G I h M fun x h=>?_
 refine Yb hN hB (v:_/\_).1 v.2 hBl (by exact hzB) (by exact hyB) h rfl fun x h=>?_
 refine Yb hN hB (y:_/\_).1 y.2 hBl (by exact hzB) (by exact hyB) h rfl fun x h=>?_
 refine Bu (w:=Al8) h rfl fun x h=>?_
 refine QM A u h rfl fun x h=>?_
 refine Bu (w:=OE) h rfl fun x h=>?_
 refine QM f u h rfl fun x h=>?_
 refine QM n u h rfl fun x h=>?_
 refine Bu (w:=OF) h rfl fun x h=>?_
 refine Fg d u h rfl fun x h=>?_
 refine Fg q u h rfl fun x h=>?_
 refine Bu (w:=Xh) h rfl fun x h=>?_
 refine Ae9 u hN Ads hr t h rfl fun x h=>?_
 rw[AO]
 show cond (_&&_) (K x 0 (s.nL+1) _ (s.cL.take (s.nL*12)++(AQ l).av) _) none=_
 rw[AP (by omega) (by omega),ct]
 exact k x h
def na(u:UnitD):UnitD:={u with segs:=Amb u.segs,away:=Amb u.away}
def RX(u:UnitD):List Int:=[u.min,u.max,u.noLoad,u.rampUp,u.rampDown,u.startRamp,u.stopRamp,u.upTime,u.downTime,u.startTime,u.hotCost,u.coldCost,u.hotHours,u.reserve,u.reservePrice,u.hours,u.output]
def mM(u:UnitD)(r:List Ah):List Ah:=Vh::tx u.noLoad::ix::tx u.rampUp::tx u.rampDown::XM::tx u.startRamp::iy::tx u.stopRamp::XN::tx u.upTime::tx u.downTime::tx u.startTime::iz::tx u.hotCost::tx u.coldCost::tx u.hotHours::De::tx u.reserve::tx u.reservePrice::Xh::(u.away.l.map tx++(Yr::(Xi u.state++(tx u.hours::tx u.output::r))))
def Ah2(z:Int):tx z≠Vh:=fun e=>by have:=Aph z;rw[e]at this;revert this;decide
def Alh(z:Int):tx z≠Yr:=fun e=>by have:=Aph z;rw[e]at this;revert this;decide
def Ali(l:List SegD):(AV.imm (take (l.length*2) (l.flatMap SegD.av)) l.length 2 false false)=Sl.av 2 SegD.av (.of l false false):=by rw[Aue (by rw[Wh (e:=SegD.av) (sz:=2) (fun _=>rfl)];exact Aui _)];rfl
def Ah3{s:RB}{u:UnitD}{a:Nat}{b:LA}{fuel:Nat}{x:Int}{r:List Ah}(d:fit 2000 N)(hN:1000000000<N)(hn:s.nU<=1000000)(t:∀ z∈RX u,smallI z)(f:∀ z∈u.away.l,smallI z)(n:u.state=0\/u.state=1\/u.state=2)(h:At s.nw s.cw x (mM u r)){K:Int->Int->Nat->Nat->LA->LA->O R}{Y:O R}(k:∀ x,At s.nw s.cw x r->K x 0 (s.nU+1) a (s.cU.take (s.nU*22)++(na u).av) b=Y):Ef N K s (fuel+1) x 0 a u.name u.bus u.min u.max u.segs.l.length b (u.segs.l.flatMap SegD.av)=Y:=by
 unfold mM at h
 have q:∀ z:Int,z∈RX u->smallI z:=t
 unfold RX at q
 rw[Ef];unfold N9
 refine Jd (w:=Vh) h rfl ?_
 rw[show(Vh==([110,111,108,111,97,100]:Lu))=true from rfl,Av7,cf]
 refine Bu (w:=Vh) h rfl fun x h=>?_
 refine Anc (q u.noLoad (by simp)) d h rfl fun x h=>?_
 refine Bu (w:=ix) h rfl fun x h=>?_
 refine Fg (q u.rampUp (by simp)) d h rfl fun x h=>?_
 refine Fg (q u.rampDown (by simp)) d h rfl fun x h=>?_
 refine Bu (w:=XM) h rfl fun x h=>?_
 refine Fg (q u.startRamp (by simp)) d h rfl fun x h=>?_
 refine Bu (w:=iy) h rfl fun x h=>?_
 refine Fg (q u.stopRamp (by simp)) d h rfl fun x h=>?_
 refine Bu (w:=XN) h rfl fun x h=>?_
 refine iE (q u.upTime (by simp)) d h rfl fun x h=>?_
 refine iE (q u.downTime (by simp)) d h rfl fun x h=>?_
 refine iE (q u.startTime (by simp)) d h rfl fun x h=>?_
 refine Bu (w:=iz) h rfl fun x h=>?_
 refine Aai (q u.hotCost (by simp)) d h rfl fun x h=>?_
 refine Aai (q u.coldCost (by simp)) d h rfl fun x h=>?_
 refine iE (q u.hotHours (by simp)) d h rfl fun x h=>?_
 refine Bu (w:=De) h rfl fun x h=>?_
 refine Fg (q u.reserve (by simp)) d h rfl fun x h=>?_
 refine iD (q u.reservePrice (by simp)) d h rfl fun x h=>?_
 refine Bu (w:=Xh) h rfl fun x h=>?_
 refine Ae9 (a:=Yr) d hN Alh (by intro w v;cases v;rfl) f h rfl fun x h=>?_
 refine Bu (w:=Yr) h rfl fun x h=>?_
 refine Ale n h rfl fun x h=>?_
 refine iE (q u.hours (by simp)) d h rfl fun x h=>?_
 refine Fg (q u.output (by simp)) d h rfl fun x h=>?_
 rw[AP (by omega) (by omega),ct,AO,Ali]
 exact k x h
def Aal{s:RB}{u:UnitD}{a:Nat}{b:LA}{r:List Ah}(n:fit 2000 N)(hN:1000000000<N)(hn:s.nU<=1000000)(t:∀ z∈RX u,smallI z)(d:∀ z∈u.away.l,smallI z)(f:u.state=0\/u.state=1\/u.state=2){K:Int->Int->Nat->Nat->LA->LA->O R}{Y:O R}(k:∀ x,At s.nw s.cw x r->K x 0 (s.nU+1) a (s.cU.take (s.nU*22)++(na u).av) b=Y):∀(l pre:List SegD)(fuel:Nat)(x:Int),pre++l=u.segs.l->(∀ g∈l,smallI g.width/\smallI g.price)->l.length<fuel->u.segs.l.length<=1000000->At s.nw s.cw x (l.flatMap UA++mM u r)->Ef N K s fuel x 0 a u.name u.bus u.min u.max pre.length b (pre.flatMap SegD.av)=Y
|[],pre,fuel+1,x,e,q,v,y,h=>by
  rw[Auk]at e
  rw[e]
  exact Ah3 n hN hn t d f h k
|g::l,pre,fuel+1,x,e,q,v,y,h=>by
  have A:=q g (Avk ..)
  rw[Aub]at v
  have D:(pre++g::l).length=u.segs.l.length:=by rw[e]
  rw[Aua,Aub]at D
  have e3:(pre++[g])++l=u.segs.l:=by rw[<-e,Aun];rfl
  rw[Ef];unfold N9
  have C:At s.nw s.cw x (tx g.width::tx g.price::(l.flatMap UA++mM u r)):=h
  refine Jd C rfl ?_
  rw[show(tx g.width==([110,111,108,111,97,100]:Lu))=false from beq_false_of_ne (Ah2 g.width),Avz,ct]
  refine Fg A.1 n C rfl fun x h=>?_
  refine iD A.2 n h rfl fun x h=>?_
  rw[AP (by omega) (by omega),ct,Hf pre g]
  rw[Aue (by rw[Wh (e:=SegD.av) (sz:=2) (fun _=>rfl)];exact Aui _)]
  rw[show List.flatMap SegD.av pre++[.int .i64 g.width,.int .i64 g.price]=List.flatMap SegD.av (pre++[g]) by rw[Avn];rfl]
  exact Aal n hN hn t d f k l (pre++[g]) fuel x e3 (fun w F=>q w (Au2 _ F)) (by omega) y h
def Afa{s:RB}{u:UnitD}{ns B r:List Ah}(n:fit 2000 N)(hN:1000000000<N)(C:A7 u.name=true)(D:u.name∉ns)(F:ns.length<16)(G:s.zD=ns.length)(I:s.yD=A9 ns)(hn:s.nU<=1000000)(hB:B.Nodup)(hBl:B.length<=1000000)(hzB:s.zB=B.length)(hyB:s.yB=A9 B)(d:0<=u.bus/\u.bus<(B.length:Int))(A:∀ z∈RX u,smallI z)(f:∀ z∈u.away.l,smallI z)(t:u.state=0\/u.state=1\/u.state=2)(v:∀ g∈u.segs.l,smallI g.width/\smallI g.price)(y:u.segs.l.length<=1000000)(h:At s.nw s.cw s.nx (u.name::Ay B u.bus::T'::tx u.min::lA::tx u.max::Qo::(u.segs.l.flatMap UA++mM u r)))(M:s.er=0){K:Int->Int->Nat->Nat->LA->LA->O R}{Y:O R}(k:∀ x,At s.nw s.cw x r->K x 0 (s.nU+1) (ns++[u.name]).length (s.cU.take (s.nU*22)++(na u).av) (A9 (ns++[u.name]))=Y):Rc N s K=Y:=by
 have q:∀ z:Int,z∈RX u->smallI z:=A
 unfold RX at q
 rw[GM];unfold Tz
 refine Alb hN C D F G I h M fun x h=>?_
 refine Yb hN hB d.1 d.2 hBl (by exact hzB) (by exact hyB) h rfl fun x h=>?_
 refine Bu (w:=T') h rfl fun x h=>?_
 refine Fg (q u.min (by simp)) n h rfl fun x h=>?_
 refine Bu (w:=lA) h rfl fun x h=>?_
 refine Fg (q u.max (by simp)) n h rfl fun x h=>?_
 refine Bu (w:=Qo) h rfl fun x h=>?_
 exact Aal n hN hn A f t k u.segs.l [] N x rfl v (by omega) y h
def ud(o:OutD):OutD:={o with lines:=Amb o.lines,moves:=Amb o.moves}
def Ah4(l:List MoveD):(AV.imm (take (l.length*3) (l.flatMap MoveD.av)) l.length 3 false false)=Sl.av 3 MoveD.av (.of l false false):=by rw[Aue (by rw[Wh (e:=MoveD.av) (sz:=3) (fun _=>rfl)];exact Aui _)];rfl
def ue{s:RB}{o:OutD}{U:List Ah}{a:Nat}{b:LA}(f:fit 2000 N)(hN:1000000000<N)(hn:s.nO<=1000000)(hU:U.Nodup)(hUl:U.length<=1000000)(hzD:s.zD=U.length)(hyD:s.yD=A9 U){K:Int->Int->Nat->Nat->LA->LA->O R}{Y:O R}(k:∀ x,At s.nw s.cw x []->K x 0 (s.nO+1) a (s.cO.take (s.nO*4)++(ud o).av) b=Y):∀(l pre:List MoveD)(fuel:Nat)(x:Int),pre++l=o.moves.l->(∀ m∈l,(0<=m.unit/\m.unit<(U.length:Int))/\smallI m.up/\smallI m.down)->l.length<fuel->o.moves.l.length<=1000000->At s.nw s.cw x (l.flatMap (Sx U))->B4 N K s a o.name o.lines.l.length o.corr b (A0 o.lines.l) fuel x 0 pre.length (pre.flatMap MoveD.av)=Y
|[],pre,fuel+1,x,e,n,q,t,h=>by
  rw[Auk]at e
  rw[e]
  rw[B4];unfold D1
  refine MQ h rfl ?_
  rw[cf,AP (by omega) (by omega),ct,AO,Ah4]
  exact k x h
|g::l,pre,fuel+1,x,e,n,q,t,h=>by
  have d:=n g (Avk ..)
  rw[Aub]at q
  have v:(pre++g::l).length=o.moves.l.length:=by rw[e]
  rw[Aua,Aub]at v
  have e3:(pre++[g])++l=o.moves.l:=by rw[<-e,Aun];rfl
  rw[B4];unfold D1
  have u:At s.nw s.cw x (Ay U g.unit::tx g.up::tx g.down::l.flatMap (Sx U)):=h
  refine Wf u rfl ?_
  rw[ct]
  refine jw hN hU d.1.1 d.1.2 hUl (by exact hzD) (by exact hyD) u rfl fun x h=>?_
  refine Fg d.2.1 f h rfl fun x h=>?_
  refine Fg d.2.2 f h rfl fun x h=>?_
  rw[AP (by omega) (by omega),ct,Hf pre g]
  rw[Aue (by rw[Wh (e:=MoveD.av) (sz:=3) (fun _=>rfl)];exact Aui _)]
  rw[show List.flatMap MoveD.av pre++[.int .i64 g.unit,.int .i64 g.up,.int .i64 g.down]=List.flatMap MoveD.av (pre++[g]) by rw[Avn];rfl]
  exact ue f hN hn hU hUl hzD hyD k l (pre++[g]) fuel x e3 (fun w y=>n w (Au2 _ y)) (by omega) t h
def WN(U:List Ah)(o:OutD):List Ah:=cond o.corr [A1] []++o.moves.l.flatMap (Sx U)
def Afb{U:List Ah}{o:OutD}(f:o.corr=false)(d:(o.corr||o.moves.l.isEmpty)=true):WN U o=[]:=by
 unfold WN
 rw[f]at d ⊢
 have:o.moves.l=[]:=by simpa using d
 rw[this];rfl
def Afc{s:RB}{o:OutD}{L U:List Ah}{a:Nat}{b:LA}(z:fit 2000 N)(hN:1000000000<N)(hn:s.nO<=1000000)(hU:U.Nodup)(hUl:U.length<=1000000)(hzD:s.zD=U.length)(hyD:s.yD=A9 U)(hL:L.Nodup)(hLl:L.length<=1000000)(hzC:s.zC=L.length)(hyC:s.yC=A9 L)(hLk:A1∉L)(f:(o.corr||o.moves.l.isEmpty)=true)(n:∀ m∈o.moves.l,(0<=m.unit/\m.unit<(U.length:Int))/\smallI m.up/\smallI m.down)(t:o.moves.l.length<=1000000){K:Int->Int->Nat->Nat->LA->LA->O R}{Y:O R}(k:∀ x,At s.nw s.cw x []->K x 0 (s.nO+1) a (s.cO.take (s.nO*4)++(ud o).av) b=Y):∀(l pre:List Int)(fuel:Nat)(x:Int),pre++l=o.lines.l->(∀ i∈l,0<=i/\i<(L.length:Int))->l.length<fuel->o.lines.l.length<=1000000->At s.nw s.cw x (l.map (Ay L)++WN U o)->B5 N K s a o.name b fuel x 0 pre.length (A0 pre)=Y
| [],pre,fuel+1,x,e,y,A,C,h=>by
  rw[Auk]at e
  rw[e]
  rw[B5];unfold D2
  have fin:=ue (R:=R) (N:=N) (o:=o) (a:=a) (b:=b) z hN hn hU hUl hzD hyD k o.moves.l [] N
  cases v:o.corr with
  | true =>
   have d:At s.nw s.cw x (A1::o.moves.l.flatMap (Sx U)):=by
    have u:At s.nw s.cw x (WN U o):=h
    unfold WN at u;rw[v]at u;exact u
   refine Jd d rfl ?_
   rw[show(A1==([99,111,114,114,101,99,116,105,118,101]:Lu))=true from rfl,Av7,cf]
   refine Wf d rfl ?_
   rw[ct]
   refine Bu (w:=A1) d rfl fun x h=>?_
   have:=fin x rfl n (by omega) t h
   rw[v]at this
   exact this
  | false =>
   have d:At s.nw s.cw x []:=by
    have u:At s.nw s.cw x (WN U o):=h
    rw[Afb v f]at u;exact u
   refine l_ d rfl ?_
   rw[cf]
   refine MQ d rfl ?_
   rw[cf]
   have D:o.moves.l=[]:=by rw[v]at f;simpa using f
   have:=fin x rfl n (by omega) t (by rw[D];exact d)
   rw[v]at this
   exact this
| i::l,pre,fuel+1,x,e,y,A,C,h=>by
  have hi:=y i (Avk ..)
  rw[Aub]at A
  have F:(pre++i::l).length=o.lines.l.length:=by rw[e]
  rw[Aua,Aub]at F
  have e3:(pre++[i])++l=o.lines.l:=by rw[<-e,Aun];rfl
  have d:At s.nw s.cw x (Ay L i::(l.map (Ay L)++WN U o)):=h
  have ne:Ay L i≠A1:=fun q=>hLk (by
   rw[<-q];unfold Ay
   have:i.toNat<L.length:=by omega
   rw[Auo,Aug this];exact Aur _)
  rw[B5];unfold D2
  refine Jd d rfl ?_
  rw[show(Ay L i==([99,111,114,114,101,99,116,105,118,101]:Lu))=false from beq_false_of_ne ne,Avz,ct]
  refine ua hN hL hi.1 hi.2 hLl (by exact hzC) (by exact hyC) d rfl fun x h=>?_
  rw[iF (by omega),ct,Yc,DZ,Hf pre i]
  exact Afc z hN hn hU hUl hzD hyD hL hLl hzC hyC hLk f n t k l (pre++[i]) fuel x e3 (fun w G=>y w (Au2 _ G)) (by omega) C h
def Ah5{s:RB}{o:OutD}{ns L U:List Ah}(u:fit 2000 N)(hN:1000000000<N)(v:A7 o.name=true)(y:o.name∉ns)(z:ns.length<64)(A:s.zG=ns.length)(C:s.yG=A9 ns)(hn:s.nO<=1000000)(hU:U.Nodup)(hUl:U.length<=1000000)(hzD:s.zD=U.length)(hyD:s.yD=A9 U)(hL:L.Nodup)(hLl:L.length<=1000000)(hzC:s.zC=L.length)(hyC:s.yC=A9 L)(hLk:A1∉L)(d:(o.corr||o.moves.l.isEmpty)=true)(f:∀ m∈o.moves.l,(0<=m.unit/\m.unit<(U.length:Int))/\smallI m.up/\smallI m.down)(n:o.moves.l.length<=1000000)(q:∀ i∈o.lines.l,0<=i/\i<(L.length:Int))(t:o.lines.l.length<=1000000)(h:At s.nw s.cw s.nx (o.name::Rs::(o.lines.l.map (Ay L)++WN U o)))(D:s.er=0){K:Int->Int->Nat->Nat->LA->LA->O R}{Y:O R}(k:∀ x,At s.nw s.cw x []->K x 0 (s.nO+1) (ns++[o.name]).length (s.cO.take (s.nO*4)++(ud o).av) (A9 (ns++[o.name]))=Y):In N s K=Y:=by
 rw[Re];unfold K4
 refine Aah hN v y z A C h D fun x h=>?_
 refine Bu (w:=Rs) h rfl fun x h=>?_
 exact Afc u hN hn hU hUl hzD hyD hL hLl hzC hyC hLk d f n k o.lines.l [] N x rfl q (by omega) t h
end
end Gx.Ct
namespace Gx.Ct
open Go Go.Proofs Gx.Cf
structure Rd where
 bg:Bool
 th:Int
 rs:List Int
 bs:List BusD
 ls:List LineD
 us:List UnitD
 ss:List StoreD
 ts:List TieD
 os:List OutD
def Rd.rb(d:Rd)(nw:Nat)(cw:LA)(nx:Int):RB:=RB.mk nw nx 0 d.th d.rs.length d.bs.length d.ls.length d.us.length d.ss.length d.ts.length d.os.length d.bg 0 d.bs.length d.ls.length d.us.length d.ss.length d.ts.length d.os.length cw (A0 d.rs) (d.bs.flatMap BusD.av) (d.ls.flatMap LineD.av) (d.us.flatMap UnitD.av) (d.ss.flatMap StoreD.av) (d.ts.flatMap TieD.av) (d.os.flatMap OutD.av) [] (A9 (d.bs.map BusD.name)) (A9 (d.ls.map LineD.name)) (A9 (d.us.map UnitD.name)) (A9 (d.ss.map StoreD.name)) (A9 (d.ts.map TieD.name)) (A9 (d.os.map OutD.name))
section
variable{R:Type}{N:Nat}
def x6(r0:Int->Int->Nat->Nat->Nat->Nat->Nat->Nat->Nat->Nat->Nat->Nat->Nat->Nat->LA->LA->LA->LA->LA->LA->LA->LA->LA->LA->LA->LA->O R)(d:Rd)(x:Int):O R:=r0 x 0 d.bs.length d.ls.length d.us.length d.ss.length d.ts.length d.os.length d.bs.length d.ls.length d.us.length d.ss.length d.ts.length d.os.length (d.bs.flatMap BusD.av) (d.ls.flatMap LineD.av) (d.us.flatMap UnitD.av) (d.ss.flatMap StoreD.av) (d.ts.flatMap TieD.av) (d.os.flatMap OutD.av) (A9 (d.bs.map BusD.name)) (A9 (d.ls.map LineD.name)) (A9 (d.us.map UnitD.name)) (A9 (d.ss.map StoreD.name)) (A9 (d.ts.map TieD.name)) (A9 (d.os.map OutD.name))
def D_{α:Type}{e:α->LA}{sz:Nat}(d:∀ a,(e a).length=sz)(l:List α)(a b:α)(f:e b=e a):take (l.length*sz) (l.flatMap e)++e b=(l++[a]).flatMap e:=by rw[Aue (by rw[Wh d];exact Aui _),Avn,f];simp
def MY{α:Type}(f:α->Ah)(l:List α)(a:α):(l.map f++[f a])=(l++[a]).map f:=by simp
def eD{s:RB}(h:At s.nw s.cw s.nx [])(d:s.er=0){K:Int->O R}{Y:O R}(k:K 0=Y):D8 N s K=Y:=by
 rw[R5];unfold Tc
 refine MQ h d ?_
 rw[cf,d];exact k
def Api{d:Rd}{b:BusD}{nw:Nat}{cw:LA}{nx:Int}(q:fit 2000 N)(hN:1000000000<N)(n:d.bg=true)(s:A7 b.name=true)(t:b.name∉d.bs.map BusD.name)(u:d.bs.length<32)(hdemand:(b.demand.l.length:Int)=d.th/\b.demand.l.length<=1000/\∀ z∈b.demand.l,smallI z)(f:smallI b.shed)(h:At nw cw nx (GZ b)){r0:Int->Int->Nat->Nat->Nat->Nat->Nat->Nat->Nat->Nat->Nat->Nat->Nat->Nat->LA->LA->LA->LA->LA->LA->LA->LA->LA->LA->LA->LA->O R}{v:Int->Int->Int->Nat->LA->O R}{Y:O R}(k:∀ x,x6 r0 {d with bs:=d.bs++[mL b]} x=Y):Ar N (d.rb nw cw nx) r0 v=Y:=by
 rw[Aw];unfold A6
 refine Ck (w:=Ea) h rfl fun x h=>?_
 rw[show((Ea==([99,97,115,101]:Lu))==(d.rb nw cw nx).bg)=false from by show((Ea==Be)==d.bg)=false;rw[n];rfl,cf]
 show cond (Ea==Be) _ _=_
 rw[show(Ea==Be)=false from rfl,cf]
 show cond (Ea==Ea) _ _=_
 rw[show(Ea==Ea)=true from rfl,ct]
 refine Alf (B:=[]) (ns:=d.bs.map BusD.name) (r:=[]) q hN s t (by rw[Auc];exact u) (Auc _).symm rfl (by show d.bs.length<=1000000;omega) (by exact hdemand) f (by exact h) rfl fun x h=>?_
 refine eD h rfl ?_
 simp only[Rd.rb]
 rw[D_ Qu d.bs (mL b) (mL b) rfl,show d.bs.map BusD.name++[b.name]=(d.bs++[mL b]).map BusD.name from MY BusD.name d.bs (mL b),Auc,Hf d.bs (mL b)]
 exact k x
def Anf{d:Rd}{l:LineD}{nw:Nat}{cw:LA}{nx:Int}(D:fit 2000 N)(hN:1000000000<N)(u:d.bg=true)(v:A7 l.name=true)(F:l.name∉d.ls.map LineD.name)(G:d.ls.length<64)(hBn:(d.bs.map BusD.name).Nodup)(hBl:d.bs.length<=1000000)(y:0<=l.fr/\l.fr<(d.bs.length:Int))(A:0<=l.tl/\l.tl<(d.bs.length:Int))(C:Fn l.re)(n:Fn l.smin)(q:Fn l.smax)(f:smallI l.limit)(s:smallI l.emer)(t:∀ z∈l.away.l,smallI z)(h:At nw cw nx (Hv (d.bs.map BusD.name) l)){r0:Int->Int->Nat->Nat->Nat->Nat->Nat->Nat->Nat->Nat->Nat->Nat->Nat->Nat->LA->LA->LA->LA->LA->LA->LA->LA->LA->LA->LA->LA->O R}{I:Int->Int->Int->Nat->LA->O R}{Y:O R}(k:∀ x,x6 r0 {d with ls:=d.ls++[AQ l]} x=Y):Ar N (d.rb nw cw nx) r0 I=Y:=by
 rw[Aw];unfold A6
 refine Ck (w:=Cn) h rfl fun x h=>?_
 rw[show((Cn==([99,97,115,101]:Lu))==(d.rb nw cw nx).bg)=false from by show((Cn==Be)==d.bg)=false;rw[u];rfl,cf]
 show cond (Cn==Be) _ _=_
 rw[show(Cn==Be)=false from rfl,cf]
 show cond (Cn==Ea) _ _=_
 rw[show(Cn==Ea)=false from rfl,cf]
 show cond (Cn==Cn) _ _=_
 rw[show(Cn==Cn)=true from rfl,ct]
 refine Ane (ns:=d.ls.map LineD.name) (B:=d.bs.map BusD.name) (r:=[]) D hN v F (by rw[Auc];exact G) (Auc _).symm rfl (by show d.ls.length<=1000000;omega) hBn (by rw[Auc];exact hBl) (Auc _).symm rfl (by rw[Auc];exact y) (by rw[Auc];exact A) C n q f s t (by intro w v;cases v) (by rw[Auk];exact h) rfl fun x h=>?_
 refine eD h rfl ?_
 simp only[Rd.rb]
 rw[D_ Fy d.ls (AQ l) (AQ l) rfl,show d.ls.map LineD.name++[l.name]=(d.ls++[AQ l]).map LineD.name from MY LineD.name d.ls (AQ l),Auc,Hf d.ls (AQ l)]
 exact k x
def Ang{d:Rd}{u:UnitD}{nw:Nat}{cw:LA}{nx:Int}(y:fit 2000 N)(hN:1000000000<N)(q:d.bg=true)(A:A7 u.name=true)(C:u.name∉d.us.map UnitD.name)(D:d.us.length<16)(hBn:(d.bs.map BusD.name).Nodup)(hBl:d.bs.length<=1000000)(n:0<=u.bus/\u.bus<(d.bs.length:Int))(F:∀ z∈RX u,smallI z)(f:∀ z∈u.away.l,smallI z)(s:u.state=0\/u.state=1\/u.state=2)(t:∀ g∈u.segs.l,smallI g.width/\smallI g.price)(v:u.segs.l.length<=1000000)(h:At nw cw nx (Lx (d.bs.map BusD.name) u)){r0:Int->Int->Nat->Nat->Nat->Nat->Nat->Nat->Nat->Nat->Nat->Nat->Nat->Nat->LA->LA->LA->LA->LA->LA->LA->LA->LA->LA->LA->LA->O R}{G:Int->Int->Int->Nat->LA->O R}{Y:O R}(k:∀ x,x6 r0 {d with us:=d.us++[na u]} x=Y):Ar N (d.rb nw cw nx) r0 G=Y:=by
 rw[Aw];unfold A6
 refine Ck (w:=B6) h rfl fun x h=>?_
 rw[show((B6==([99,97,115,101]:Lu))==(d.rb nw cw nx).bg)=false from by show((B6==Be)==d.bg)=false;rw[q];rfl,cf]
 show cond (B6==Be) _ _=_
 rw[show(B6==Be)=false from rfl,cf]
 show cond (B6==Ea) _ _=_
 rw[show(B6==Ea)=false from rfl,cf]
 show cond (B6==Cn) _ _=_
 rw[show(B6==Cn)=false from rfl,cf]
 show cond (B6==B6) _ _=_
 rw[show(B6==B6)=true from rfl,ct]
 refine Afa (ns:=d.us.map UnitD.name) (B:=d.bs.map BusD.name) (r:=[]) y hN A C (by rw[Auc];exact D) (Auc _).symm rfl (by show d.us.length<=1000000;omega) hBn (by rw[Auc];exact hBl) (Auc _).symm rfl (by rw[Auc];exact n) F f s t v (by exact h) rfl fun x h=>?_
 refine eD h rfl ?_
 simp only[Rd.rb]
 rw[D_ Jy d.us (na u) (na u) rfl,show d.us.map UnitD.name++[u.name]=(d.us++[na u]).map UnitD.name from MY UnitD.name d.us (na u),Auc,Hf d.us (na u)]
 exact k x
def Alj{d:Rd}{u:StoreD}{nw:Nat}{cw:LA}{nx:Int}(s:fit 2000 N)(hN:1000000000<N)(q:d.bg=true)(t:A7 u.name=true)(v:u.name∉d.ss.map StoreD.name)(y:d.ss.length<8)(hBn:(d.bs.map BusD.name).Nodup)(hBl:d.bs.length<=1000000)(l:0<=u.bus/\u.bus<(d.bs.length:Int))(hcapacity:smallI u.capacity)(hinitial:smallI u.initial)(f:smallI u.final)(hcharge:smallI u.charge)(hdischarge:smallI u.discharge)(n:Fn u.eff)(h:At nw cw nx (Hp (d.bs.map BusD.name) u)){r0:Int->Int->Nat->Nat->Nat->Nat->Nat->Nat->Nat->Nat->Nat->Nat->Nat->Nat->LA->LA->LA->LA->LA->LA->LA->LA->LA->LA->LA->LA->O R}{z:Int->Int->Int->Nat->LA->O R}{Y:O R}(k:∀ x,x6 r0 {d with ss:=d.ss++[u]} x=Y):Ar N (d.rb nw cw nx) r0 z=Y:=by
 rw[Aw];unfold A6
 refine Ck (w:=Bj) h rfl fun x h=>?_
 rw[show((Bj==([99,97,115,101]:Lu))==(d.rb nw cw nx).bg)=false from by show((Bj==Be)==d.bg)=false;rw[q];rfl,cf]
 show cond (Bj==Be) _ _=_
 rw[show(Bj==Be)=false from rfl,cf]
 show cond (Bj==Ea) _ _=_
 rw[show(Bj==Ea)=false from rfl,cf]
 show cond (Bj==Cn) _ _=_
 rw[show(Bj==Cn)=false from rfl,cf]
 show cond (Bj==B6) _ _=_
 rw[show(Bj==B6)=false from rfl,cf]
 show cond (Bj==Bj) _ _=_
 rw[show(Bj==Bj)=true from rfl,ct]
 refine Aak (ns:=d.ss.map StoreD.name) (B:=d.bs.map BusD.name) (r:=[]) s hN t v (by rw[Auc];exact y) (Auc _).symm rfl (by show d.ss.length<=1000000;omega) hBn (by rw[Auc];exact hBl) (Auc _).symm rfl (by rw[Auc];exact l) hcapacity hinitial f hcharge hdischarge n (by exact h) rfl fun x h=>?_
 refine eD h rfl ?_
 simp only[Rd.rb]
 rw[D_ Lk d.ss u u rfl,show d.ss.map StoreD.name++[u.name]=(d.ss++[u]).map StoreD.name from MY StoreD.name d.ss u,Auc,Hf d.ss u]
 exact k x
def Apj{d:Rd}{t:TieD}{nw:Nat}{cw:LA}{nx:Int}(v:fit 2000 N)(hN:1000000000<N)(u:d.bg=true)(y:A7 t.name=true)(A:t.name∉d.ts.map TieD.name)(C:d.ts.length<8)(hBn:(d.bs.map BusD.name).Nodup)(hBl:d.bs.length<=1000000)(n:0<=t.bus/\t.bus<(d.bs.length:Int))(q:(t.imp.l.length:Int)=d.th/\t.imp.l.length<=1000/\∀ z∈t.imp.l,smallI z)(s:(t.exp.l.length:Int)=d.th/\t.exp.l.length<=1000/\∀ z∈t.exp.l,smallI z)(f:(t.price.l.length:Int)=d.th/\t.price.l.length<=1000/\∀ z∈t.price.l,smallI z)(h:At nw cw nx (Xj (d.bs.map BusD.name) t)){r0:Int->Int->Nat->Nat->Nat->Nat->Nat->Nat->Nat->Nat->Nat->Nat->Nat->Nat->LA->LA->LA->LA->LA->LA->LA->LA->LA->LA->LA->LA->O R}{D:Int->Int->Int->Nat->LA->O R}{Y:O R}(k:∀ x,x6 r0 {d with ts:=d.ts++[x5 t]} x=Y):Ar N (d.rb nw cw nx) r0 D=Y:=by
 rw[Aw];unfold A6
 refine Ck (w:=Dm) h rfl fun x h=>?_
 rw[show((Dm==([99,97,115,101]:Lu))==(d.rb nw cw nx).bg)=false from by show((Dm==Be)==d.bg)=false;rw[u];rfl,cf]
 show cond (Dm==Be) _ _=_
 rw[show(Dm==Be)=false from rfl,cf]
 show cond (Dm==Ea) _ _=_
 rw[show(Dm==Ea)=false from rfl,cf]
 show cond (Dm==Cn) _ _=_
 rw[show(Dm==Cn)=false from rfl,cf]
 show cond (Dm==B6) _ _=_
 rw[show(Dm==B6)=false from rfl,cf]
 show cond (Dm==Bj) _ _=_
 rw[show(Dm==Bj)=false from rfl,cf]
 show cond (Dm==Dm) _ _=_
 rw[show(Dm==Dm)=true from rfl,ct]
 refine Alg (ns:=d.ts.map TieD.name) (B:=d.bs.map BusD.name) (r:=[]) v hN y A (by rw[Auc];exact C) (Auc _).symm rfl (by show d.ts.length<=1000000;omega) hBn (by rw[Auc];exact hBl) (Auc _).symm rfl (by rw[Auc];exact n) (by exact q) (by exact s) (by exact f) (by rw[Auk];exact h) rfl fun x h=>?_
 refine eD h rfl ?_
 simp only[Rd.rb]
 rw[D_ Ol d.ts (x5 t) (x5 t) rfl,show d.ts.map TieD.name++[t.name]=(d.ts++[x5 t]).map TieD.name from MY TieD.name d.ts (x5 t),Auc,Hf d.ts (x5 t)]
 exact k x
def Ah6{d:Rd}{o:OutD}{nw:Nat}{cw:LA}{nx:Int}(v:fit 2000 N)(hN:1000000000<N)(f:d.bg=true)(y:A7 o.name=true)(z:o.name∉d.os.map OutD.name)(A:d.os.length<64)(hUn:(d.us.map UnitD.name).Nodup)(hUl:d.us.length<=1000000)(hLn:(d.ls.map LineD.name).Nodup)(hLl:d.ls.length<=1000000)(hLk:A1∉d.ls.map LineD.name)(n:(o.corr||o.moves.l.isEmpty)=true)(q:∀ m∈o.moves.l,(0<=m.unit/\m.unit<(d.us.length:Int))/\smallI m.up/\smallI m.down)(s:o.moves.l.length<=1000000)(t:∀ i∈o.lines.l,0<=i/\i<(d.ls.length:Int))(u:o.lines.l.length<=1000000)(h:At nw cw nx (Kd (d.ls.map LineD.name) (d.us.map UnitD.name) o)){r0:Int->Int->Nat->Nat->Nat->Nat->Nat->Nat->Nat->Nat->Nat->Nat->Nat->Nat->LA->LA->LA->LA->LA->LA->LA->LA->LA->LA->LA->LA->O R}{C:Int->Int->Int->Nat->LA->O R}{Y:O R}(k:∀ x,x6 r0 {d with os:=d.os++[ud o]} x=Y):Ar N (d.rb nw cw nx) r0 C=Y:=by
 rw[Aw];unfold A6
 refine Ck (w:=Ba) h rfl fun x h=>?_
 rw[show((Ba==([99,97,115,101]:Lu))==(d.rb nw cw nx).bg)=false from by show((Ba==Be)==d.bg)=false;rw[f];rfl,cf]
 show cond (Ba==Be) _ _=_
 rw[show(Ba==Be)=false from rfl,cf]
 show cond (Ba==Ea) _ _=_
 rw[show(Ba==Ea)=false from rfl,cf]
 show cond (Ba==Cn) _ _=_
 rw[show(Ba==Cn)=false from rfl,cf]
 show cond (Ba==B6) _ _=_
 rw[show(Ba==B6)=false from rfl,cf]
 show cond (Ba==Bj) _ _=_
 rw[show(Ba==Bj)=false from rfl,cf]
 show cond (Ba==Dm) _ _=_
 rw[show(Ba==Dm)=false from rfl,cf]
 show cond (Ba==Ba) _ _=_
 rw[show(Ba==Ba)=true from rfl,ct]
 refine Ah5 (ns:=d.os.map OutD.name) (L:=d.ls.map LineD.name) (U:=d.us.map UnitD.name) v hN y z (by rw[Auc];exact A) (Auc _).symm rfl (by show d.os.length<=1000000;omega) hUn (by rw[Auc];exact hUl) (Auc _).symm rfl hLn (by rw[Auc];exact hLl) (Auc _).symm rfl hLk n (by rw[Auc];exact q) s (by rw[Auc];exact t) u (by exact h) rfl fun x h=>?_
 refine eD h rfl ?_
 simp only[Rd.rb]
 rw[D_ Ms d.os (ud o) (ud o) rfl,show d.os.map OutD.name++[o.name]=(d.os++[ud o]).map OutD.name from MY OutD.name d.os (ud o),Auc,Hf d.os (ud o)]
 exact k x
end
end Gx.Ct
namespace Gx.Ct
open Go Go.Proofs Gx.Cf
section
variable{R:Type}{N:Nat}
def Anh{d:Rd}{z:Int}{l:List Int}{nw:Nat}{cw:LA}{nx:Int}(n:fit 2000 N)(hN:1000000000<N)(f:d.bg=false)(s:1<=z)(t:z<=24)(u:(l.length:Int)=z)(v:∀ z∈l,smallI z)(h:At nw cw nx ([Be,tx z,De]++l.map tx)){r0:Int->Int->Nat->Nat->Nat->Nat->Nat->Nat->Nat->Nat->Nat->Nat->Nat->Nat->LA->LA->LA->LA->LA->LA->LA->LA->LA->LA->LA->LA->O R}{q:Int->Int->Int->Nat->LA->O R}{Y:O R}(k:∀ x,q x 0 z l.length (A0 l)=Y):Ar N (d.rb nw cw nx) r0 q=Y:=by
 rw[Aw];unfold A6
 refine Ck (w:=Be) h rfl fun x h=>?_
 rw[show((Be==([99,97,115,101]:Lu))==(d.rb nw cw nx).bg)=false from by show((Be==Be)==d.bg)=false;rw[f];rfl,cf]
 show cond (Be==Be) _ _=_
 rw[show(Be==Be)=true from rfl,ct]
 refine xY (z:=z) (by unfold smallI;omega) s t (n.le (by omega)) h rfl fun x h=>?_
 refine Bu (w:=De) h rfl fun x h=>?_
 refine MX (l:=l) (r:=[]) n hN v (by omega) (by exact u) (by rw[Auk];exact h) rfl fun x h=>?_
 refine eD h rfl ?_
 exact k x
noncomputable def pq(N:Nat)(K:LA->Int->Int->O R)(d:Rd)(fuel:Nat)(rem:Lu)(u:Int)(more:Bool)(nw:Nat)(nx:Int)(cw:LA):O R:=F9 N K fuel rem u more nw nx 0 d.th d.rs.length d.bs.length d.ls.length d.us.length d.ss.length d.ts.length d.os.length d.bg d.bs.length d.ls.length d.us.length d.ss.length d.ts.length d.os.length cw (A0 d.rs) (d.bs.flatMap BusD.av) (d.ls.flatMap LineD.av) (d.us.flatMap UnitD.av) (d.ss.flatMap StoreD.av) (d.ts.flatMap TieD.av) (d.os.flatMap OutD.av) (A9 (d.bs.map BusD.name)) (A9 (d.ls.map LineD.name)) (A9 (d.us.map UnitD.name)) (A9 (d.ss.map StoreD.name)) (A9 (d.ts.map TieD.name)) (A9 (d.os.map OutD.name))
def Hy(N:Nat)(R:Type)(s:Lu)(ws:List Ah):Prop:=∀ K:Nat->LA->O R,fv N s K=K ws.length (ws.map AV.str)
def iG{K:LA->Int->Int->O R}{d:Rd}{fuel:Nat}{rem s M0:Lu}{u:Int}{m:Bool}{nw:Nat}{nx:Int}{cw:LA}{Y:O R}(f:Lib.cut rem [10]=(s,M0,m))(hr:rem.length<=4294967280)(hs:Hy N R s [])(k:pq N K d fuel M0 (wrap .i64 (u+1)) m 0 0 []=Y):pq N K d (fuel+1) rem u true nw nx cw=Y:=by
 unfold pq
 rw[F9];unfold H9
 rw[ct,Ak8 hr,f]
 dsimp only
 rw[hs]
 exact MQ (s:=d.rb 0 [] 0) (gk (ws:=[]) (by decide)) rfl k
def Ani{K:LA->Int->Int->O R}{d d':Rd}{fuel:Nat}{rem s M0:Lu}{u:Int}{m:Bool}{nw:Nat}{nx:Int}{cw:LA}{w:Ah}{ws:List Ah}{Y:O R}(n:Lib.cut rem [10]=(s,M0,m))(hr:rem.length<=4294967280)(hs:Hy N R s (w::ws))(q:(w::ws).length<=2000000)(t:d'.th=d.th)(v:d'.bg=d.bg)(f:d'.rs=d.rs)
  (st:∀(r0:Int->Int->Nat->Nat->Nat->Nat->Nat->Nat->Nat->Nat->Nat->Nat->Nat->Nat->LA->LA->LA->LA->LA->LA->LA->LA->LA->LA->LA->LA->O R)(y:Int->Int->Int->Nat->LA->O R),At (w::ws).length ((w::ws).map AV.str) 0 (w::ws)->(∀ x,x6 r0 d' x=Y)->Ar N (d.rb (w::ws).length ((w::ws).map AV.str) 0) r0 y=Y)
  (k:∀ x,pq N K d' fuel M0 (wrap .i64 (u+1)) m (w::ws).length x ((w::ws).map AV.str)=Y):pq N K d (fuel+1) rem u true nw nx cw=Y:=by
 unfold pq
 rw[F9];unfold H9
 rw[ct,Ak8 hr,n]
 dsimp only
 rw[hs]
 have l:=gk q
 refine Wf (s:=d.rb (w::ws).length ((w::ws).map AV.str) 0) l rfl ?_
 rw[Av7,cf]
 refine st _ _ l fun x=>?_
 unfold x6
 refine nq rfl ?_
 rw[Av7,cf]
 have:=k x
 unfold pq at this
 rw[t,v,f]at this
 exact this
def Anj{K:LA->Int->Int->O R}{d:Rd}{z:Int}{l:List Int}{fuel:Nat}{rem s M0:Lu}{u:Int}{m:Bool}{nw:Nat}{nx:Int}{cw:LA}{Y:O R}(t:fit 2000 N)(hN:1000000000<N)(f:d.bg=false)(v:1<=z)(y:z<=24)(n:(l.length:Int)=z)(A:∀ z∈l,smallI z)(C:Lib.cut rem [10]=(s,M0,m))(hr:rem.length<=4294967280)(hs:Hy N R s ([Be,tx z,De]++l.map tx))
  (k:∀ x,pq N K {d with bg:=true,th:=z,rs:=l} fuel M0 (wrap .i64 (u+1)) m ([Be,tx z,De]++l.map tx).length x (([Be,tx z,De]++l.map tx).map AV.str)=Y):pq N K d (fuel+1) rem u true nw nx cw=Y:=by
 unfold pq
 rw[F9];unfold H9
 rw[ct,Ak8 hr,C]
 dsimp only
 rw[hs]
 have q:=gk (ws:=[Be,tx z,De]++l.map tx) (by rw[Aua,Auc];show 3+l.length<=_;omega)
 refine Wf (s:=d.rb _ _ 0) q rfl ?_
 rw[Av7,cf]
 refine Anh (d:=d) t hN f v y n A q fun x=>?_
 refine nq rfl ?_
 rw[Av7,cf]
 exact k x
def iH{s:RB}{v:Ah}{r:List Ah}(h:At s.nw s.cw s.nx (v::r))(d:s.er=0){K:Int->O R}{Y:O R}(k:K 2=Y):D8 N s K=Y:=by
 rw[R5];unfold Tc
 refine Wf h d ?_
 rw[ct];exact JE d k
def iI{s:RB}(d:s.er≠0){K:Int->O R}{Y:O R}(k:K s.er=Y):D8 N s K=Y:=by
 rw[R5];unfold Tc
 refine VZ d ?_
 rw[cf];exact k
abbrev tP(r0:Int->Int->Nat->Nat->Nat->Nat->Nat->Nat->Nat->Nat->Nat->Nat->Nat->Nat->LA->LA->LA->LA->LA->LA->LA->LA->LA->LA->LA->LA->Option R)(r1:Int->Int->Int->Nat->LA->Option R)(e:Int)(Y:Option R):Prop:=(∀(x:Int)(a0 a1 a2 a3 a4 a5 a6 a7 a8 a9 a10 a11:Nat)(b0 b1 b2 b3 b4 b5 b6 b7 b8 b9 b10 b11:LA),r0 x e a0 a1 a2 a3 a4 a5 a6 a7 a8 a9 a10 a11 b0 b1 b2 b3 b4 b5 b6 b7 b8 b9 b10 b11=Y)/\∀(x z:Int)(n:Nat)(l:LA),r1 x e z n l=Y
def Apk{d:Rd}{b:BusD}{v:Ah}{nw:Nat}{cw:LA}{nx:Int}(s:fit 2000 N)(hN:1000000000<N)(n:d.bg=true)(t:A7 b.name=true)(u:b.name∉d.bs.map BusD.name)(y:d.bs.length<32)(hdemand:(b.demand.l.length:Int)=d.th/\b.demand.l.length<=1000/\∀ z∈b.demand.l,smallI z)(f:smallI b.shed)(h:At nw cw nx (Ea::b.name::Qn::(b.demand.l.map tx++(cW::tx b.shed::[v])))){r0:Int->Int->Nat->Nat->Nat->Nat->Nat->Nat->Nat->Nat->Nat->Nat->Nat->Nat->LA->LA->LA->LA->LA->LA->LA->LA->LA->LA->LA->LA->O R}{q:Int->Int->Int->Nat->LA->O R}{Y:O R}(k:tP r0 q 2 Y):Ar N (d.rb nw cw nx) r0 q=Y:=by
 rw[Aw];unfold A6
 refine Ck (w:=Ea) h rfl fun x h=>?_
 rw[show((Ea==([99,97,115,101]:Lu))==(d.rb nw cw nx).bg)=false from by show((Ea==Be)==d.bg)=false;rw[n];rfl,cf]
 show cond (Ea==Be) _ _=_
 rw[show(Ea==Be)=false from rfl,cf]
 show cond (Ea==Ea) _ _=_
 rw[show(Ea==Ea)=true from rfl,ct]
 refine Alf (B:=[]) (ns:=d.bs.map BusD.name) (r:=[v]) s hN t u (by rw[Auc];exact y) (Auc _).symm rfl (by show d.bs.length<=1000000;omega) (by exact hdemand) f (by exact h) rfl fun x h=>?_
 refine iH h rfl ?_
 exact k.1 _ _ _ _ _ _ _ _ _ _ _ _ _ _ _ _ _ _ _ _ _ _ _ _ _
def Ank{d:Rd}{u:UnitD}{v:Ah}{nw:Nat}{cw:LA}{nx:Int}(C:fit 2000 N)(hN:1000000000<N)(q:d.bg=true)(D:A7 u.name=true)(F:u.name∉d.us.map UnitD.name)(G:d.us.length<16)(hBn:(d.bs.map BusD.name).Nodup)(hBl:d.bs.length<=1000000)(n:0<=u.bus/\u.bus<(d.bs.length:Int))(I:∀ z∈RX u,smallI z)(f:∀ z∈u.away.l,smallI z)(s:u.state=0\/u.state=1\/u.state=2)(t:∀ g∈u.segs.l,smallI g.width/\smallI g.price)(y:u.segs.l.length<=1000000)(h:At nw cw nx (B6::u.name::Ay (d.bs.map BusD.name) u.bus::T'::tx u.min::lA::tx u.max::Qo::(u.segs.l.flatMap UA++mM u [v]))){r0:Int->Int->Nat->Nat->Nat->Nat->Nat->Nat->Nat->Nat->Nat->Nat->Nat->Nat->LA->LA->LA->LA->LA->LA->LA->LA->LA->LA->LA->LA->O R}{A:Int->Int->Int->Nat->LA->O R}{Y:O R}(k:tP r0 A 2 Y):Ar N (d.rb nw cw nx) r0 A=Y:=by
 rw[Aw];unfold A6
 refine Ck (w:=B6) h rfl fun x h=>?_
 rw[show((B6==([99,97,115,101]:Lu))==(d.rb nw cw nx).bg)=false from by show((B6==Be)==d.bg)=false;rw[q];rfl,cf]
 show cond (B6==Be) _ _=_
 rw[show(B6==Be)=false from rfl,cf]
 show cond (B6==Ea) _ _=_
 rw[show(B6==Ea)=false from rfl,cf]
 show cond (B6==Cn) _ _=_
 rw[show(B6==Cn)=false from rfl,cf]
 show cond (B6==B6) _ _=_
 rw[show(B6==B6)=true from rfl,ct]
 refine Afa (ns:=d.us.map UnitD.name) (B:=d.bs.map BusD.name) (r:=[v]) C hN D F (by rw[Auc];exact G) (Auc _).symm rfl (by show d.us.length<=1000000;omega) hBn (by rw[Auc];exact hBl) (Auc _).symm rfl (by rw[Auc];exact n) I f s t y (by exact h) rfl fun x h=>?_
 refine iH h rfl ?_
 exact k.1 _ _ _ _ _ _ _ _ _ _ _ _ _ _ _ _ _ _ _ _ _ _ _ _ _
def Alk{d:Rd}{u:StoreD}{v:Ah}{nw:Nat}{cw:LA}{nx:Int}(t:fit 2000 N)(hN:1000000000<N)(q:d.bg=true)(y:A7 u.name=true)(z:u.name∉d.ss.map StoreD.name)(A:d.ss.length<8)(hBn:(d.bs.map BusD.name).Nodup)(hBl:d.bs.length<=1000000)(l:0<=u.bus/\u.bus<(d.bs.length:Int))(hcapacity:smallI u.capacity)(hinitial:smallI u.initial)(f:smallI u.final)(hcharge:smallI u.charge)(hdischarge:smallI u.discharge)(n:Fn u.eff)(h:At nw cw nx (Hp (d.bs.map BusD.name) u++[v])){r0:Int->Int->Nat->Nat->Nat->Nat->Nat->Nat->Nat->Nat->Nat->Nat->Nat->Nat->LA->LA->LA->LA->LA->LA->LA->LA->LA->LA->LA->LA->O R}{s:Int->Int->Int->Nat->LA->O R}{Y:O R}(k:tP r0 s 2 Y):Ar N (d.rb nw cw nx) r0 s=Y:=by
 rw[Aw];unfold A6
 refine Ck (w:=Bj) h rfl fun x h=>?_
 rw[show((Bj==([99,97,115,101]:Lu))==(d.rb nw cw nx).bg)=false from by show((Bj==Be)==d.bg)=false;rw[q];rfl,cf]
 show cond (Bj==Be) _ _=_
 rw[show(Bj==Be)=false from rfl,cf]
 show cond (Bj==Ea) _ _=_
 rw[show(Bj==Ea)=false from rfl,cf]
 show cond (Bj==Cn) _ _=_
 rw[show(Bj==Cn)=false from rfl,cf]
 show cond (Bj==B6) _ _=_
 rw[show(Bj==B6)=false from rfl,cf]
 show cond (Bj==Bj) _ _=_
 rw[show(Bj==Bj)=true from rfl,ct]
 refine Aak (ns:=d.ss.map StoreD.name) (B:=d.bs.map BusD.name) (r:=[v]) t hN y z (by rw[Auc];exact A) (Auc _).symm rfl (by show d.ss.length<=1000000;omega) hBn (by rw[Auc];exact hBl) (Auc _).symm rfl (by rw[Auc];exact l) hcapacity hinitial f hcharge hdischarge n (by exact h) rfl fun x h=>?_
 refine iH h rfl ?_
 exact k.1 _ _ _ _ _ _ _ _ _ _ _ _ _ _ _ _ _ _ _ _ _ _ _ _ _
def Apl{d:Rd}{t:TieD}{v:Ah}{nw:Nat}{cw:LA}{nx:Int}(A:fit 2000 N)(hN:1000000000<N)(u:d.bg=true)(C:A7 t.name=true)(D:t.name∉d.ts.map TieD.name)(F:d.ts.length<8)(hBn:(d.bs.map BusD.name).Nodup)(hBl:d.bs.length<=1000000)(n:0<=t.bus/\t.bus<(d.bs.length:Int))(q:(t.imp.l.length:Int)=d.th/\t.imp.l.length<=1000/\∀ z∈t.imp.l,smallI z)(s:(t.exp.l.length:Int)=d.th/\t.exp.l.length<=1000/\∀ z∈t.exp.l,smallI z)(f:(t.price.l.length:Int)=d.th/\t.price.l.length<=1000/\∀ z∈t.price.l,smallI z)(h:At nw cw nx (Dm::t.name::Ay (d.bs.map BusD.name) t.bus::Sw::(t.imp.l.map tx++(EZ::(t.exp.l.map tx++(OH::(t.price.l.map tx++[v]))))))){r0:Int->Int->Nat->Nat->Nat->Nat->Nat->Nat->Nat->Nat->Nat->Nat->Nat->Nat->LA->LA->LA->LA->LA->LA->LA->LA->LA->LA->LA->LA->O R}{y:Int->Int->Int->Nat->LA->O R}{Y:O R}(k:tP r0 y 2 Y):Ar N (d.rb nw cw nx) r0 y=Y:=by
 rw[Aw];unfold A6
 refine Ck (w:=Dm) h rfl fun x h=>?_
 rw[show((Dm==([99,97,115,101]:Lu))==(d.rb nw cw nx).bg)=false from by show((Dm==Be)==d.bg)=false;rw[u];rfl,cf]
 show cond (Dm==Be) _ _=_
 rw[show(Dm==Be)=false from rfl,cf]
 show cond (Dm==Ea) _ _=_
 rw[show(Dm==Ea)=false from rfl,cf]
 show cond (Dm==Cn) _ _=_
 rw[show(Dm==Cn)=false from rfl,cf]
 show cond (Dm==B6) _ _=_
 rw[show(Dm==B6)=false from rfl,cf]
 show cond (Dm==Bj) _ _=_
 rw[show(Dm==Bj)=false from rfl,cf]
 show cond (Dm==Dm) _ _=_
 rw[show(Dm==Dm)=true from rfl,ct]
 refine Alg (ns:=d.ts.map TieD.name) (B:=d.bs.map BusD.name) (r:=[v]) A hN C D (by rw[Auc];exact F) (Auc _).symm rfl (by show d.ts.length<=1000000;omega) hBn (by rw[Auc];exact hBl) (Auc _).symm rfl (by rw[Auc];exact n) (by exact q) (by exact s) (by exact f) (by exact h) rfl fun x h=>?_
 refine iH h rfl ?_
 exact k.1 _ _ _ _ _ _ _ _ _ _ _ _ _ _ _ _ _ _ _ _ _ _ _ _ _
def Anl{d:Rd}{z:Int}{l:List Int}{v:Ah}{nw:Nat}{cw:LA}{nx:Int}(n:fit 2000 N)(hN:1000000000<N)(f:d.bg=false)(s:1<=z)(t:z<=24)(u:(l.length:Int)=z)(y:∀ z∈l,smallI z)(h:At nw cw nx (Be::tx z::De::(l.map tx++[v]))){r0:Int->Int->Nat->Nat->Nat->Nat->Nat->Nat->Nat->Nat->Nat->Nat->Nat->Nat->LA->LA->LA->LA->LA->LA->LA->LA->LA->LA->LA->LA->O R}{q:Int->Int->Int->Nat->LA->O R}{Y:O R}(k:tP r0 q 2 Y):Ar N (d.rb nw cw nx) r0 q=Y:=by
 rw[Aw];unfold A6
 refine Ck (w:=Be) h rfl fun x h=>?_
 rw[show((Be==([99,97,115,101]:Lu))==(d.rb nw cw nx).bg)=false from by show((Be==Be)==d.bg)=false;rw[f];rfl,cf]
 show cond (Be==Be) _ _=_
 rw[show(Be==Be)=true from rfl,ct]
 refine xY (z:=z) (by unfold smallI;omega) s t (n.le (by omega)) h rfl fun x h=>?_
 refine Bu (w:=De) h rfl fun x h=>?_
 refine MX (l:=l) (r:=[v]) n hN y (by omega) (by exact u) h rfl fun x h=>?_
 refine iH h rfl ?_
 exact k.2 _ _ _ _
def WO(N:Nat)(R:Type)(v:Ah)(e:Int):Prop:=∀{s:RB}{r:List Ah}{K:Int->Int->Int->O R}{Y:O R},At s.nw s.cw s.nx (v::r)->s.er=0->(∀ x,At s.nw s.cw x r->K 0 x e=Y)->Te N s K=Y
def All{v:Ah}(d:SP v=false)(l:v.length<=100)(f:fit 1500 N){K:Int->Bool->Int->O R}:Tt N v K=K 0 false 2:=by
 rw[IU];unfold VH
 rw[xW d (f.le (by omega))]
 rfl
def Alm{v:Ah}(d:SP v=false)(f:v.length<=100)(l:fit 1500 N):WO N R v 2:=fun h n k=>by
 rw[P2];unfold Ra
 rw[Me];unfold Mw
 refine Ck h n fun x hx=>?_
 show Tt N v _=_
 rw[All d f l]
 exact JE rfl (k x hx)
def Aam{s:RB}{a v:Ah}{e:Int}(t:fit 2000 N)(u:e≠0)(A:WO N R v e)(d:v≠a){K:Nat->Int->Int->LA->O R}{Y:O R}(C:∀ z:Int,tx z≠a)(k:∀ n x b,K n x e b=Y):∀(l pre:List Int)(fuel:Nat)(x:Int),(∀ z∈l,smallI z)->l.length+1<fuel->pre.length+l.length<=2000000->At s.nw s.cw x (l.map tx++[v])->B9 N K a s fuel pre.length x 0 (A0 pre)=Y
|[],pre,fuel+2,x,f,D,q,h=>by
  have h:At s.nw s.cw x [v]:=h
  rw[B9];unfold D0
  refine Jd (s:={s with nx:=x,er:=0}) (a:=a) h rfl ?_
  rw[beq_false_of_ne d,Avz,ct]
  refine A (s:={s with nx:=x,er:=0}) h rfl fun y F=>?_
  rw[Aud]at q
  rw[iF (by omega),ct]
  rw[B9];unfold D0
  refine V_ (s:={s with nx:=y,er:=e}) u ?_
  exact k _ _ _
|z::l,pre,fuel+1,x,f,D,q,h=>by
  rw[Aub]at D q
  have h:At s.nw s.cw x (tx z::(l.map tx++[v])):=h
  rw[B9];unfold D0
  refine Jd (s:={s with nx:=x,er:=0}) (a:=a) h rfl ?_
  rw[beq_false_of_ne (C z)]
  refine Ae8 (s:={s with nx:=x,er:=0}) (f z (Avk ..)) (t.le (by omega)) h rfl fun y F=>?_
  rw[iF (by omega),ct,Yc,DZ,Hf pre z]
  have G:(pre++[z]).length=pre.length+1:=by simp
  exact Aam t u A d C k l (pre++[z]) fuel y (fun w I=>f w (Au2 _ I)) (by omega) (by omega) F
def Aln{s:RB}{v:Ah}{e:Int}{l:LineD}{ns B:List Ah}(A:fit 2000 N)(hN:1000000000<N)(M:A7 l.name=true)(S:l.name∉ns)(T:ns.length<64)(U:s.zC=ns.length)(V:s.yC=A9 ns)(hn:s.nL<=1000000)(hB:B.Nodup)(hBl:B.length<=1000000)(hzB:s.zB=B.length)(hyB:s.yB=A9 B)(C:0<=l.fr/\l.fr<(B.length:Int))(D:0<=l.tl/\l.tl<(B.length:Int))(F:Fn l.re)(f:Fn l.smin)(t:Fn l.smax)(d:smallI l.limit)(u:smallI l.emer)(y:∀ z∈l.away.l,smallI z)(X:WO N R v e)(G:v≠[])(I:e≠0)(h:At s.nw s.cw s.nx (l.name::Ay B l.fr::Ay B l.tl::Al8::Iz l.re::OE::Iz l.smin::Iz l.smax::OF::tx l.limit::tx l.emer::Xh::(l.away.l.map tx++[v])))(he:s.er=0){K:Int->Int->Nat->Nat->LA->LA->O R}{Y:O R}(k:∀ x m p q,K x e (s.nL+1) m p q=Y):Mz N s K=Y:=by
 rw[N8];unfold Ow
 refine Aag hN M S T U V h he fun x h=>?_
 refine Yb hN hB (C:_/\_).1 C.2 hBl (by exact hzB) (by exact hyB) h rfl fun x h=>?_
 refine Yb hN hB (D:_/\_).1 D.2 hBl (by exact hzB) (by exact hyB) h rfl fun x h=>?_
 refine Bu (w:=Al8) h rfl fun x h=>?_
 refine QM F A h rfl fun x h=>?_
 refine Bu (w:=OE) h rfl fun x h=>?_
 refine QM f A h rfl fun x h=>?_
 refine QM t A h rfl fun x h=>?_
 refine Bu (w:=OF) h rfl fun x h=>?_
 refine Fg d A h rfl fun x h=>?_
 refine Fg u A h rfl fun x h=>?_
 refine Bu (w:=Xh) h rfl fun x h=>?_
 rw[N7];unfold J3
 have hL:=xZ h
 rw[Aua,Auc]at hL
 refine Aam A I X G Ads (fun n x b=>?_) l.away.l [] N _ y (by omega) (by rw[Aud];omega) h
 show cond (_&&_) (K x e (s.nL+1) _ _ _) none=_
 rw[AP (by omega) (by omega),ct]
 exact k _ _ _ _
def Anm{d:Rd}{v:Ah}{e:Int}{l:LineD}{nw:Nat}{cw:LA}{nx:Int}(M:fit 2000 N)(hN:1000000000<N)(A:d.bg=true)(S:A7 l.name=true)(T:l.name∉d.ls.map LineD.name)(U:d.ls.length<64)(hBn:(d.bs.map BusD.name).Nodup)(hBl:d.bs.length<=1000000)(C:0<=l.fr/\l.fr<(d.bs.length:Int))(D:0<=l.tl/\l.tl<(d.bs.length:Int))(F:Fn l.re)(n:Fn l.smin)(s:Fn l.smax)(f:smallI l.limit)(t:smallI l.emer)(u:∀ z∈l.away.l,smallI z)(V:WO N R v e)(G:v≠[])(y:e≠0)(h:At nw cw nx (Hv (d.bs.map BusD.name) l++[v])){r0:Int->Int->Nat->Nat->Nat->Nat->Nat->Nat->Nat->Nat->Nat->Nat->Nat->Nat->LA->LA->LA->LA->LA->LA->LA->LA->LA->LA->LA->LA->O R}{I:Int->Int->Int->Nat->LA->O R}{Y:O R}(k:tP r0 I e Y):Ar N (d.rb nw cw nx) r0 I=Y:=by
 rw[Aw];unfold A6
 refine Ck (w:=Cn) h rfl fun x h=>?_
 rw[show((Cn==([99,97,115,101]:Lu))==(d.rb nw cw nx).bg)=false from by show((Cn==Be)==d.bg)=false;rw[A];rfl,cf]
 show cond (Cn==Be) _ _=_
 rw[show(Cn==Be)=false from rfl,cf]
 show cond (Cn==Ea) _ _=_
 rw[show(Cn==Ea)=false from rfl,cf]
 show cond (Cn==Cn) _ _=_
 rw[show(Cn==Cn)=true from rfl,ct]
 refine Aln (ns:=d.ls.map LineD.name) (B:=d.bs.map BusD.name) M hN S T (by rw[Auc];exact U) (Auc _).symm rfl (by show d.ls.length<=1000000;omega) hBn (by rw[Auc];exact hBl) (Auc _).symm rfl (by rw[Auc];exact C) (by rw[Auc];exact D) F n s f t u V G y (by exact h) rfl fun x m p q=>?_
 refine iI y ?_
 exact k.1 _ _ _ _ _ _ _ _ _ _ _ _ _ _ _ _ _ _ _ _ _ _ _ _ _
def WM{l:List Ah}{w:Ah}{n:Nat}{d f:Bool}(hN:1000000000<N)(hn:n=l.length)(q:l.length<=1000000)(s:w∉l):∃ v:Int,v<0/\∀ K:Int->O R,Av N (A9 l) n d f w K=K v:=by
 subst hn
 obtain⟨v,v1,v2⟩:=rG (R:=R) (N:=N) (l:=l) (w:=w) (d:=d) (f:=f) q l.length 0 N (by omega) (by omega)
 refine⟨v,?_,fun K=>?_⟩
 ·rw[Au0,show l.contains w=false by simpa using s,decide_eq_false_iff_not]at v1
  omega
 ·rw[Dv];unfold Ci
  exact v2 _
def Ah7{s:RB}{w:Ah}{r ns:List Ah}(hN:1000000000<N)(q:ns.length<=1000000)(t:w∉ns)(u:s.zC=ns.length)(y:s.yC=A9 ns)(h:At s.nw s.cw s.nx (w::r))(z:s.er=0){K:Int->Int->Int->O R}{Y:O R}(k:∀ x,At s.nw s.cw x r->K 0 x 12=Y):Jb N s K=Y:=by
 rw[Ob];unfold Mg
 refine Ck h z fun x hx=>?_
 show Av N _ _ _ _ _ _=_
 obtain⟨v,v0,v1⟩:=WM (R:=R) (N:=N) (l:=ns) (w:=w) (n:=ns.length) (d:=false) (f:=true) hN rfl q t
 rw[u,y,Ff,v1,decide_eq_true v0,ct]
 exact JE rfl (k x hx)
def Ah8{s:RB}{w:Ah}{r ns:List Ah}(hN:1000000000<N)(q:ns.length<=1000000)(t:w∉ns)(u:s.zD=ns.length)(y:s.yD=A9 ns)(h:At s.nw s.cw s.nx (w::r))(z:s.er=0){K:Int->Int->Int->O R}{Y:O R}(k:∀ x,At s.nw s.cw x r->K 0 x 12=Y):Jc N s K=Y:=by
 rw[Oc];unfold Mh
 refine Ck h z fun x hx=>?_
 show Av N _ _ _ _ _ _=_
 obtain⟨v,v0,v1⟩:=WM (R:=R) (N:=N) (l:=ns) (w:=w) (n:=ns.length) (d:=false) (f:=true) hN rfl q t
 rw[u,y,Ff,v1,decide_eq_true v0,ct]
 exact JE rfl (k x hx)
def Ah9{s:RB}(h:At s.nw s.cw s.nx [])(d:s.er=0){K:Int->Int->Int->O R}{Y:O R}(k:K 0 s.nx 2=Y):A3 N s K=Y:=by
 rw[N5];unfold Ov
 rw[Kv];unfold Hk
 exact qx h d k
def r9{U:List Ah}{v:Ah}(h:v∈U):∃ i:Int,0<=i/\i<(U.length:Int)/\Ay U i=v:=by
 obtain⟨i,hi,e⟩:=Aut h
 refine⟨(i:Int),by omega,by omega,?_⟩
 unfold Ay
 rw[Auf,Auo,Aug hi];exact e
def jy{s:RB}{a:Nat}{b:LA}{d:Ah}{ln:Nat}{cr:Bool}{ls:LA}{e:Int}(f:e≠0)(hn:s.nO<=1000000){K:Int->Int->Nat->Nat->LA->LA->O R}{Y:O R}(k:∀ x m p q,K x e (s.nO+1) m p q=Y)(fuel:Nat)(x:Int)(n:Nat)(q:LA):B4 N K s a d ln cr b ls (fuel+1) x e n q=Y:=by
 rw[B4];unfold D1
 refine VZ (by exact f) ?_
 rw[cf,AP (by omega) (by omega),ct]
 exact k _ _ _ _
def uf{s:RB}{o:OutD}{U:List Ah}{a:Nat}{b:LA}{v:Ah}{e:Int}(n:fit 2000 N)(hN:1000000000<N)(hn:s.nO<=1000000)(hU:U.Nodup)(hUl:U.length<=1000000)(hzD:s.zD=U.length)(hyD:s.yD=A9 U)(z:(v∈U/\e=2)\/(v∉U/\e=12)){K:Int->Int->Nat->Nat->LA->LA->O R}{Y:O R}(k:∀ x m p q,K x e (s.nO+1) m p q=Y):∀(l pre:List MoveD)(fuel:Nat)(x:Int),(∀ m∈l,(0<=m.unit/\m.unit<(U.length:Int))/\smallI m.up/\smallI m.down)->l.length+1<fuel->pre.length+l.length<=1000000->At s.nw s.cw x (l.flatMap (Sx U)++[v])->B4 N K s a o.name o.lines.l.length o.corr b (A0 o.lines.l) fuel x 0 pre.length (pre.flatMap MoveD.av)=Y
| [],pre,fuel+2,x,t,A,u,h=>by
  have d:At s.nw s.cw x [v]:=h
  rw[Aud]at u
  rw[B4];unfold D1
  refine Wf d rfl ?_
  rw[ct]
  rcases z with⟨y,rfl⟩|⟨y,rfl⟩
  ·obtain⟨i,i0,i1,rfl⟩:=r9 y
   refine jw hN hU i0 i1 hUl (by exact hzD) (by exact hyD) d rfl fun x h=>?_
   refine Ah9 h rfl ?_
   refine DY (show(2:Int)≠0 by decide) ?_
   rw[AP (by omega) (by omega),ct]
   exact jy (by decide) hn k _ _ _ _
  ·refine Ah8 hN hUl y (by exact hzD) (by exact hyD) d rfl fun x h=>?_
   refine DY (show(12:Int)≠0 by decide) ?_
   refine DY (show(12:Int)≠0 by decide) ?_
   rw[AP (by omega) (by omega),ct]
   exact jy (by decide) hn k _ _ _ _
|g::l,pre,fuel+1,x,t,A,u,h=>by
  have f:=t g (Avk ..)
  rw[Aub]at A u
  rw[B4];unfold D1
  have d:At s.nw s.cw x (Ay U g.unit::tx g.up::tx g.down::(l.flatMap (Sx U)++[v])):=h
  refine Wf d rfl ?_
  rw[ct]
  refine jw hN hU f.1.1 f.1.2 hUl (by exact hzD) (by exact hyD) d rfl fun x h=>?_
  refine Fg f.2.1 n h rfl fun x h=>?_
  refine Fg f.2.2 n h rfl fun x h=>?_
  rw[AP (by omega) (by omega),ct,Hf pre g]
  rw[Aue (by rw[Wh (e:=MoveD.av) (sz:=3) (fun _=>rfl)];exact Aui _)]
  rw[show List.flatMap MoveD.av pre++[.int .i64 g.unit,.int .i64 g.up,.int .i64 g.down]=List.flatMap MoveD.av (pre++[g]) by rw[Avn];rfl]
  have C:(pre++[g]).length=pre.length+1:=by simp
  exact uf n hN hn hU hUl hzD hyD z k l (pre++[g]) fuel x (fun w D=>t w (Au2 _ D)) (by omega) (by omega) h
def Afd{s:RB}{o:OutD}{L U:List Ah}{a:Nat}{b:LA}{v:Ah}{e:Int}(D:fit 2000 N)(hN:1000000000<N)(hn:s.nO<=1000000)(hU:U.Nodup)(hUl:U.length<=1000000)(hzD:s.zD=U.length)(hyD:s.yD=A9 U)(hL:L.Nodup)(hLl:L.length<=1000000)(hzC:s.zC=L.length)(hyC:s.yC=A9 L)(hLk:A1∉L)(u:(o.corr||o.moves.l.isEmpty)=true)(y:∀ m∈o.moves.l,(0<=m.unit/\m.unit<(U.length:Int))/\smallI m.up/\smallI m.down)(A:o.moves.l.length<=1000000)(f:(o.corr=true/\((v∈U/\e=2)\/(v∉U/\e=12)))\/(o.corr=false/\v≠A1/\v∉L/\e=12)){K:Int->Int->Nat->Nat->LA->LA->O R}{Y:O R}(k:∀ x m p q,K x e (s.nO+1) m p q=Y):∀(l pre:List Int)(fuel:Nat)(x:Int),pre++l=o.lines.l->(∀ i∈l,0<=i/\i<(L.length:Int))->l.length+1<fuel->o.lines.l.length<=1000000->At s.nw s.cw x (l.map (Ay L)++(WN U o++[v]))->B5 N K s a o.name b fuel x 0 pre.length (A0 pre)=Y
| [],pre,fuel+2,x,e,C,F,G,h=>by
  rw[Auk]at e
  rw[e]
  rw[B5];unfold D2
  rcases f with⟨z,f⟩|⟨z,f,hvL,rfl⟩
  ·have d:At s.nw s.cw x (A1::(o.moves.l.flatMap (Sx U)++[v])):=by
    have t:At s.nw s.cw x (WN U o++[v]):=h
    unfold WN at t;rw[z]at t;exact t
   refine Jd d rfl ?_
   rw[show(A1==([99,111,114,114,101,99,116,105,118,101]:Lu))=true from rfl,Av7,cf]
   refine Wf d rfl ?_
   rw[ct]
   refine Bu (w:=A1) d rfl fun x h=>?_
   have:=uf (R:=R) (N:=N) (o:=o) (a:=a) (b:=b) D hN hn hU hUl hzD hyD f k o.moves.l [] N x y (by omega) (by rw[Aud];omega) h
   rw[z]at this
   exact this
  ·have d:At s.nw s.cw x [v]:=by
    have t:At s.nw s.cw x (WN U o++[v]):=h
    rw[Afb z u]at t;exact t
   refine Jd d rfl ?_
   rw[show(v==([99,111,114,114,101,99,116,105,118,101]:Lu))=false from beq_false_of_ne f,Avz,ct]
   refine Ah7 hN hLl hvL (by exact hzC) (by exact hyC) d rfl fun x h=>?_
   rw[iF (by omega),ct]
   rw[B5];unfold D2
   refine V_ (show(12:Int)≠0 by decide) ?_
   rw[cf]
   refine VZ (show(12:Int)≠0 by decide) ?_
   rw[cf]
   obtain⟨n,rfl⟩:∃ n,N=n+1:=⟨N - 1,by omega⟩
   exact jy (by decide) hn k _ _ _ _
| i::l,pre,fuel+1,x,e,C,F,G,h=>by
  have hi:=C i (Avk ..)
  rw[Aub]at F
  have I:(pre++i::l).length=o.lines.l.length:=by rw[e]
  rw[Aua,Aub]at I
  have e3:(pre++[i])++l=o.lines.l:=by rw[<-e,Aun];rfl
  have d:At s.nw s.cw x (Ay L i::(l.map (Ay L)++(WN U o++[v]))):=h
  have ne:Ay L i≠A1:=fun q=>hLk (by
   rw[<-q];unfold Ay
   have:i.toNat<L.length:=by omega
   rw[Auo,Aug this];exact Aur _)
  rw[B5];unfold D2
  refine Jd d rfl ?_
  rw[show(Ay L i==([99,111,114,114,101,99,116,105,118,101]:Lu))=false from beq_false_of_ne ne,Avz,ct]
  refine ua hN hL hi.1 hi.2 hLl (by exact hzC) (by exact hyC) d rfl fun x h=>?_
  rw[iF (by omega),ct,Yc,DZ,Hf pre i]
  exact Afd D hN hn hU hUl hzD hyD hL hLl hzC hyC hLk u y A f k l (pre++[i]) fuel x e3 (fun w M=>C w (Au2 _ M)) (by omega) G h
def Adt{s:RB}{o:OutD}{ns L U:List Ah}{v:Ah}{e:Int}(y:fit 2000 N)(hN:1000000000<N)(z:A7 o.name=true)(A:o.name∉ns)(C:ns.length<64)(D:s.zG=ns.length)(F:s.yG=A9 ns)(hn:s.nO<=1000000)(hU:U.Nodup)(hUl:U.length<=1000000)(hzD:s.zD=U.length)(hyD:s.yD=A9 U)(hL:L.Nodup)(hLl:L.length<=1000000)(hzC:s.zC=L.length)(hyC:s.yC=A9 L)(hLk:A1∉L)(d:(o.corr||o.moves.l.isEmpty)=true)(f:∀ m∈o.moves.l,(0<=m.unit/\m.unit<(U.length:Int))/\smallI m.up/\smallI m.down)(n:o.moves.l.length<=1000000)(t:∀ i∈o.lines.l,0<=i/\i<(L.length:Int))(u:o.lines.l.length<=1000000)(G:(o.corr=true/\((v∈U/\e=2)\/(v∉U/\e=12)))\/(o.corr=false/\v≠A1/\v∉L/\e=12))(h:At s.nw s.cw s.nx (o.name::Rs::(o.lines.l.map (Ay L)++(WN U o++[v]))))(I:s.er=0){K:Int->Int->Nat->Nat->LA->LA->O R}{Y:O R}(k:∀ x m p q,K x e (s.nO+1) m p q=Y):In N s K=Y:=by
 rw[Re];unfold K4
 refine Aah hN z A C D F h I fun x h=>?_
 refine Bu (w:=Rs) h rfl fun x h=>?_
 exact Afd y hN hn hU hUl hzD hyD hL hLl hzC hyC hLk d f n G k o.lines.l [] N x rfl t (by omega) u h
def Aia{d:Rd}{v:Ah}{e:Int}{o:OutD}{nw:Nat}{cw:LA}{nx:Int}(C:fit 2000 N)(hN:1000000000<N)(f:d.bg=true)(D:A7 o.name=true)(F:o.name∉d.os.map OutD.name)(G:d.os.length<64)(hUn:(d.us.map UnitD.name).Nodup)(hUl:d.us.length<=1000000)(hLn:(d.ls.map LineD.name).Nodup)(hLl:d.ls.length<=1000000)(hLk:A1∉d.ls.map LineD.name)(n:(o.corr||o.moves.l.isEmpty)=true)(s:∀ m∈o.moves.l,(0<=m.unit/\m.unit<(d.us.length:Int))/\smallI m.up/\smallI m.down)(t:o.moves.l.length<=1000000)(u:∀ i∈o.lines.l,0<=i/\i<(d.ls.length:Int))(y:o.lines.l.length<=1000000)(I:(o.corr=true/\((v∈d.us.map UnitD.name/\e=2)\/(v∉d.us.map UnitD.name/\e=12)))\/(o.corr=false/\v≠A1/\v∉d.ls.map LineD.name/\e=12))(z:e≠0)(h:At nw cw nx (Ba::o.name::Rs::(o.lines.l.map (Ay (d.ls.map LineD.name))++(WN (d.us.map UnitD.name) o++[v])))){r0:Int->Int->Nat->Nat->Nat->Nat->Nat->Nat->Nat->Nat->Nat->Nat->Nat->Nat->LA->LA->LA->LA->LA->LA->LA->LA->LA->LA->LA->LA->O R}{A:Int->Int->Int->Nat->LA->O R}{Y:O R}(k:tP r0 A e Y):Ar N (d.rb nw cw nx) r0 A=Y:=by
 rw[Aw];unfold A6
 refine Ck (w:=Ba) h rfl fun x h=>?_
 rw[show((Ba==([99,97,115,101]:Lu))==(d.rb nw cw nx).bg)=false from by show((Ba==Be)==d.bg)=false;rw[f];rfl,cf]
 show cond (Ba==Be) _ _=_
 rw[show(Ba==Be)=false from rfl,cf]
 show cond (Ba==Ea) _ _=_
 rw[show(Ba==Ea)=false from rfl,cf]
 show cond (Ba==Cn) _ _=_
 rw[show(Ba==Cn)=false from rfl,cf]
 show cond (Ba==B6) _ _=_
 rw[show(Ba==B6)=false from rfl,cf]
 show cond (Ba==Bj) _ _=_
 rw[show(Ba==Bj)=false from rfl,cf]
 show cond (Ba==Dm) _ _=_
 rw[show(Ba==Dm)=false from rfl,cf]
 show cond (Ba==Ba) _ _=_
 rw[show(Ba==Ba)=true from rfl,ct]
 refine Adt (ns:=d.os.map OutD.name) (L:=d.ls.map LineD.name) (U:=d.us.map UnitD.name) C hN D F (by rw[Auc];exact G) (Auc _).symm rfl (by show d.os.length<=1000000;omega) hUn (by rw[Auc];exact hUl) (Auc _).symm rfl hLn (by rw[Auc];exact hLl) (Auc _).symm rfl hLk n (by rw[Auc];exact s) t (by rw[Auc];exact u) y I (by exact h) rfl fun x m p q=>?_
 refine iI z ?_
 exact k.1 _ _ _ _ _ _ _ _ _ _ _ _ _ _ _ _ _ _ _ _ _ _ _ _ _
def Adu{s:RB}(d:s.er≠0){n:Nat}(v:s.th=(n:Int))(hn:n<=1000)(hN:1000000000<N){K:Nat->Int->Int->LA->O R}{Y:O R}(k:∀ m x b,K m x s.er b=Y):Ch N s K=Y:=by
 rw[Q5];unfold Kw
 have main:∀(m j fuel a:Nat)(x:Int)(b:LA),j+m=n->m<fuel->a=j->B0 N K s fuel a (j:Int) x s.er b=Y:=by
  intro m
  induction m with
  |zero =>
   intro j fuel a x b l q t
   obtain⟨f,rfl⟩:∃ f,fuel=f+1:=⟨fuel - 1,by omega⟩
   rw[B0];unfold Fd
   rw[show decide ((j:Int)<s.th)=false from decide_eq_false (by omega),cf]
   exact k _ _ _
  |succ m u =>
   intro j fuel a x b l q t
   obtain⟨f,rfl⟩:∃ f,fuel=f+1:=⟨fuel - 1,by omega⟩
   rw[B0];unfold Fd
   rw[show decide ((j:Int)<s.th)=true from decide_eq_true (by omega),ct]
   refine DY (s:={s with nx:=x,er:=s.er}) d ?_
   rw[iF (by omega),ct,DJ (by omega)]
   exact u (j+1) f (a+1) x _ (by omega) (by omega) (by omega)
 exact main n 0 N 0 s.nx [] (by omega) (by omega) rfl
def Alo{s:RB}(h:At s.nw s.cw s.nx [])(d:s.er=0){n:Nat}(f:s.th=(n:Int))(l:n<=1000)(hN:1000000000<N)(hn:s.nB<=1000000){K:Int->Int->Nat->Nat->LA->LA->O R}{Y:O R}(k:∀ x a m p q,K x 2 a m p q=Y):Td N s K=Y:=by
 rw[Wd];unfold Wc
 refine Ahz h d ?_
 refine DV (show(2:Int)≠0 by decide) ?_
 refine Adu (n:=n) (show(2:Int)≠0 by decide) (by exact f) l hN fun m x b=>?_
 refine DV (show(2:Int)≠0 by decide) ?_
 refine Ah1 (show(2:Int)≠0 by decide) ?_
 rw[AP (by omega) (by omega),ct]
 exact k _ _ _ _ _
def Aib{s:RB}(h:At s.nw s.cw s.nx [])(d:s.er=0)(hN:1000000000<N)(hn:s.nL<=1000000){K:Int->Int->Nat->Nat->LA->LA->O R}{Y:O R}(k:∀ x a m p q,K x 2 a m p q=Y):Mz N s K=Y:=by
 rw[N8];unfold Ow
 refine Ah0 h d ?_
 refine r7 (show(2:Int)≠0 by decide) ?_
 refine r7 (show(2:Int)≠0 by decide) ?_
 refine DV (show(2:Int)≠0 by decide) ?_
 refine r5 (show(2:Int)≠0 by decide) ?_
 refine DV (show(2:Int)≠0 by decide) ?_
 refine r5 (show(2:Int)≠0 by decide) ?_
 refine r5 (show(2:Int)≠0 by decide) ?_
 refine DV (show(2:Int)≠0 by decide) ?_
 refine DY (show(2:Int)≠0 by decide) ?_
 refine DY (show(2:Int)≠0 by decide) ?_
 refine DV (show(2:Int)≠0 by decide) ?_
 rw[N7];unfold J3
 obtain⟨n,rfl⟩:∃ n,N=n+1:=⟨N - 1,by omega⟩
 rw[B9];unfold D0
 refine V_ (show(2:Int)≠0 by decide) ?_
 show cond (_&&_) (K _ 2 (s.nL+1) _ _ _) none=_
 rw[AP (by omega) (by omega),ct]
 exact k _ _ _ _ _
def Apm{d:Rd}{v:Ah}{n nw:Nat}{cw:LA}{nx:Int}(hN:1000000000<N)(f:d.bg=true)(z:d.th=(n:Int))(A:n<=1000)(I:d.bs.length<=1000)(hL:d.ls.length<=1000)(C:v≠B6)(D:v≠Bj)(F:v≠Dm)(G:v≠Ba)(h:At nw cw nx [v]){r0:Int->Int->Nat->Nat->Nat->Nat->Nat->Nat->Nat->Nat->Nat->Nat->Nat->Nat->LA->LA->LA->LA->LA->LA->LA->LA->LA->LA->LA->LA->O R}{s:Int->Int->Int->Nat->LA->O R}{Y:O R}(k:tP r0 s 2 Y):Ar N (d.rb nw cw nx) r0 s=Y:=by
 rw[Aw];unfold A6
 refine Ck h rfl fun x t=>?_
 by_cases l:v=Be
 ·subst l
  rw[show((Be==([99,97,115,101]:Lu))==(d.rb nw cw nx).bg)=true from by show((Be==Be)==d.bg)=true;rw[f];rfl,ct]
  refine JE rfl ?_
  exact k.1 _ _ _ _ _ _ _ _ _ _ _ _ _ _ _ _ _ _ _ _ _ _ _ _ _
 rw[show((v==([99,97,115,101]:Lu))==(d.rb nw cw nx).bg)=false from by show((v==Be)==d.bg)=false;rw[f,beq_false_of_ne l];rfl,cf]
 rw[show(v==([99,97,115,101]:Lu))=false from beq_false_of_ne l,cf]
 by_cases u:v=Ea
 ·subst u
  rw[show(Ea==([98,117,115]:Lu))=true from rfl,ct]
  refine Alo t rfl (n:=n) (by exact z) A hN (by show d.bs.length<=1000000;omega) fun x a m p q=>?_
  refine iI (show(2:Int)≠0 by decide) ?_
  exact k.1 _ _ _ _ _ _ _ _ _ _ _ _ _ _ _ _ _ _ _ _ _ _ _ _ _
 rw[show(v==([98,117,115]:Lu))=false from beq_false_of_ne u,cf]
 by_cases y:v=Cn
 ·subst y
  rw[show(Cn==([108,105,110,101]:Lu))=true from rfl,ct]
  refine Aib t rfl hN (by show d.ls.length<=1000000;omega) fun x a m p q=>?_
  refine iI (show(2:Int)≠0 by decide) ?_
  exact k.1 _ _ _ _ _ _ _ _ _ _ _ _ _ _ _ _ _ _ _ _ _ _ _ _ _
 rw[show(v==([108,105,110,101]:Lu))=false from beq_false_of_ne y,cf]
 show cond (v==B6) _ _=_
 rw[beq_false_of_ne C,cf]
 show cond (v==Bj) _ _=_
 rw[beq_false_of_ne D,cf]
 show cond (v==Dm) _ _=_
 rw[beq_false_of_ne F,cf]
 show cond (v==Ba) _ _=_
 rw[beq_false_of_ne G,cf]
 refine JE rfl ?_
 refine iI (show(2:Int)≠0 by decide) ?_
 exact k.1 _ _ _ _ _ _ _ _ _ _ _ _ _ _ _ _ _ _ _ _ _ _ _ _ _
def Apn{K:LA->Int->Int->O R}{d:Rd}{e:Int}{fuel:Nat}{rem s M0:Lu}{u:Int}{m:Bool}{nw:Nat}{nx:Int}{cw:LA}{w:Ah}{ws:List Ah}{Y:O R}(q:Lib.cut rem [10]=(s,M0,m))(hr:rem.length<=4294967280)(hs:Hy N R s (w::ws))(t:(w::ws).length<=2000000)(f:e≠0)
  (st:∀(r0:Int->Int->Nat->Nat->Nat->Nat->Nat->Nat->Nat->Nat->Nat->Nat->Nat->Nat->LA->LA->LA->LA->LA->LA->LA->LA->LA->LA->LA->LA->O R)(l:Int->Int->Int->Nat->LA->O R),At (w::ws).length ((w::ws).map AV.str) 0 (w::ws)->tP r0 l e Y->Ar N (d.rb (w::ws).length ((w::ws).map AV.str) 0) r0 l=Y)
  (k:K [.int .i64 0,.nsl,.nsl,.nsl,.nsl,.nsl,.nsl,.nsl] (wrap .i64 (u+1)) e=Y):pq N K d (fuel+1) rem u true nw nx cw=Y:=by
 unfold pq
 rw[F9];unfold H9
 rw[ct,Ak8 hr,q]
 dsimp only
 rw[hs]
 have n:=gk t
 refine Wf (s:=d.rb (w::ws).length ((w::ws).map AV.str) 0) n rfl ?_
 rw[Av7,cf]
 refine st _ _ n ⟨?_,?_⟩
 ·intros
  refine qw f ?_
  exact k
 ·intros
  refine qw f ?_
  exact k
def r_(b:UInt8):Bool:=b==32||(b==9||b==13)
def fw:Lu->Ah->List Ah
|[],w=>if w=[]then []else [w]
|b::r,w=>if r_ b=true then(if w=[]then fw r []else w::fw r [])else fw r (w++[b])
def Adv(p:Nat×Nat):LA:=[.int .i64 (p.1:Int),.int .i64 (p.2:Int)]
def Ail(a:Lu)(p:Nat×Nat):Ah:=take (p.2 - p.1) (drop p.1 a)
def Ann(a:Lu)(p:Nat×Nat):Prop:=p.1<=p.2/\p.2<=a.length
def Apo{c:UInt8}{K:Bool->O R}:DE N (c.toNat:Int) K=K (r_ c):=by
 rw[MF];unfold KE r_
 have e:∀ k:UInt8,((c.toNat:Int)==(k.toNat:Int))=(c==k):=fun k=>by
  rw[Bool.eq_iff_iff];simp only[beq_iff_eq]
  exact⟨fun h=>Ays.1 (by omega),fun h=>by rw[h]⟩
 have e1:((c.toNat:Int)==32)=(c==32):=e 32
 have d:((c.toNat:Int)==9)=(c==9):=e 9
 have e3:((c.toNat:Int)==13)=(c==13):=e 13
 rw[e1,d,e3]
 cases c==32<;>cases c==9<;>cases c==13<;>rfl
def Ano{h:Int}(d:0<=h/\h<=4611686018427387904):v_ .i64 (-1) h=-h - 1:=by
 obtain⟨n,rfl⟩:∃ n:Nat,h=(n:Int):=⟨h.toNat,by omega⟩
 unfold v_
 show wrap .i64 (((BitVec.ofInt 64 (-1) ^^^ BitVec.ofInt 64 (n:Int)).toNat:Nat):Int)=_
 rw[show BitVec.ofInt 64 (-1)=BitVec.allOnes 64 by decide,BitVec.allOnes_xor,BitVec.toNat_not,BitVec.toNat_ofInt,IntKind.wrap_i64]
 have:(((n:Int)%((2 ^ 64:Nat):Int)).toNat)=n:=by omega
 rw[this]
 omega
def Afe(sp:List (Nat×Nat)):take (sp.length*2) (sp.flatMap Adv)=sp.flatMap Adv:=by rw[Aue (by rw[Wh (e:=Adv) (sz:=2) (fun _=>rfl)];exact Aui _)]
def ra{a:Lu}(x:∀ c∈a,c.toNat<128)(z:a.length<=2000000){K:Nat->LA->O R}:∀(r pre w:Lu)(sp:List (Nat×Nat))(fuel:Nat)(h:Int),a=pre++(w++r)->r.length<fuel->sp.length+r.length<=2000000->(w=[]/\h<0\/w≠[]/\h=(pre.length:Int))->(∀ p∈sp,Ann a p) ->
  ∃ d:List (Nat×Nat),d.length<=2000001/\(∀ p∈d,Ann a p)/\d.map (Ail a)=sp.map (Ail a)++fw r w/\Dk N K a fuel sp.length h (sp.flatMap Adv) ((pre.length+w.length:Nat):Int)=Jk N K a d.length (d.flatMap Adv)
| [],pre,w,sp,fuel+1,h,e,D,f,A,hs=>by
  have G:a.length=pre.length+w.length:=by rw[e];simp
  rw[Dk];unfold H8
  rw[Jr (by omega),cf]
  rcases A with⟨w0,l⟩|⟨w0,l⟩
  ·refine⟨sp,by simp at f;omega,hs,by rw[w0];simp[fw],?_⟩
   rw[show decide (h>=0)=false from decide_eq_false (by omega),cf]
  ·refine⟨sp++[(pre.length,a.length)],by rw[Aua];simp at f ⊢;omega,fun p f=>?_,?_,?_⟩
   ·rcases Aul.1 f with q|q
    ·exact hs p q
    ·rw[Ava.1 q];exact⟨by show pre.length<=a.length;omega,Aui _⟩
   ·rw[Au9];congr 1
    show [Ail a (pre.length,a.length)]=fw [] w
    rw[fw,if_neg w0];congr 1
    show take (a.length - pre.length) (drop pre.length a)=w
    rw[e,Ax2,Auk,Aue (by simp)]
   ·rw[show decide (h>=0)=true from decide_eq_true (by omega),ct,AP (by simp at f;omega) (by omega),ct,Afe,Hf sp (pre.length,a.length),Avn,l];rfl
| c::r,pre,w,sp,fuel+1,h,e,D,f,A,hs=>by
  rw[Aub]at D f
  have G:a.length=pre.length+(w.length+(r.length+1)):=by rw[e];simp
  have y:pre.length+w.length<a.length:=by omega
  have I:a[pre.length+w.length]=c:=by
   simp only[e,<-Aun]
   rw[List.getElem_append_right (by simp)];simp
  have F:=d9 (s:=a) (p:=pre.length+w.length) y (x _ (Aur _))
  rw[I]at F
  rw[Dk];unfold H8
  rw[Ig y,ct,F]
  dsimp only
  rw[Apo]
  have st:(((pre.length+w.length:Nat):Int)+((1:Nat):Int))=((pre.length+w.length+1:Nat):Int):=by omega
  rw[st]
  cases C:r_ c with
  | true =>
   rw[ct]
   rcases A with⟨w0,l⟩|⟨w0,l⟩
   ·subst w0
    obtain⟨d,n,t,u,v⟩:=ra x z (K:=K) r (pre++[c]) [] sp fuel h (by rw[e];simp) (by omega) (by omega) (.inl ⟨rfl,l⟩) hs
    refine⟨d,n,t,by rw[u,fw,if_pos C,if_pos rfl],?_⟩
    rw[show decide (h>=0)=false from decide_eq_false (by omega),cf]
    rw[<-v];simp
   ·have M:v_ .i64 (-1) h=-h - 1:=Ano (by omega)
    obtain⟨d,n,t,u,v⟩:=ra x z (K:=K) r (pre++(w++[c])) [] (sp++[(pre.length,pre.length+w.length)]) fuel (-h - 1) (by rw[e];simp) (by omega) (by rw[Aua];simp;omega) (.inl ⟨rfl,by omega⟩) (fun p f=>by
     rcases Aul.1 f with q|q
     ·exact hs p q
     ·rw[Ava.1 q];exact⟨by show pre.length<=_;omega,by show pre.length+w.length<=_;omega⟩)
    refine⟨d,n,t,?_,?_⟩
    ·rw[u,fw,if_pos C,if_neg w0,Au9,Aun];congr 1
     show [Ail a (pre.length,pre.length+w.length)]++_=_
     rw[show Ail a (pre.length,pre.length+w.length)=w by
      show take (pre.length+w.length - pre.length) (drop pre.length a)=w
      rw[e,Ax2,Ayh,Ay3]]
     rfl
    ·rw[show decide (h>=0)=true from decide_eq_true (by omega),ct,AP (by omega) (by omega),ct,Afe,M,<-v,Hf sp (pre.length,pre.length+w.length),Avn,l]
     simp[Adv,Avj]
  | false =>
   rw[cf]
   rcases A with⟨w0,l⟩|⟨w0,l⟩
   ·subst w0
    obtain⟨d,n,t,u,v⟩:=ra x z (K:=K) r pre [c] sp fuel (pre.length:Int) (by rw[e];simp) (by omega) (by omega) (.inr ⟨by simp,rfl⟩) hs
    refine⟨d,n,t,by rw[u,fw,if_neg (by rw[C];simp)];rfl,?_⟩
    rw[show decide (h<0)=true from decide_eq_true (by omega),ct]
    rw[<-v];simp
   ·obtain⟨d,n,t,u,v⟩:=ra x z (K:=K) r pre (w++[c]) sp fuel h (by rw[e];simp) (by omega) (by omega) (.inr ⟨by simp,l⟩) hs
    refine⟨d,n,t,by rw[u,fw,if_neg (by rw[C];simp)],?_⟩
    rw[show decide (h<0)=false from decide_eq_false (by omega),cf]
    rw[<-v];simp[Avj]
def Aqw{sp:List (Nat×Nat)}{j:Nat}(h:j<sp.length):take 2 (drop (0+Int.toNat (j:Int)*2) (sp.flatMap Adv))=Adv sp[j]:=by rw[Aux];exact Mi (e:=Adv) (fun _=>rfl) h
def App{sp:List (Nat×Nat)}{j:Nat}(h:j<sp.length):ble 2 (List.length (drop (0+Int.toNat (j:Int)*2) (sp.flatMap Adv)))=true:=by rw[Aux];exact Sn (e:=Adv) (fun _=>rfl) h
def Alp{a:Lu}(f:a.length<=2000000){sp:List (Nat×Nat)}(hs:∀ p∈sp,Ann a p)(hn:sp.length<=2000001){K:Nat->LA->O R}:∀(m j fuel:Nat),j+m=sp.length->m<fuel ->
  Ek N K a sp.length (sp.flatMap Adv) fuel (sp.length:Int) (j:Int) (A9 ((sp.take j).map (Ail a))++replicate m (.str []))=K sp.length (A9 (sp.map (Ail a)))
|0,j,fuel+1,l,_=>by
  rw[Ek];unfold H7
  rw[Jr (by omega),cf,Aue (by omega)]
  simp
|m+1,j,fuel+1,l,t=>by
  have h:j<sp.length:=by omega
  have n:=hs _ (Aur h)
  unfold Ann at n
  rw[Ek];unfold H7
  rw[Ig h,ct,Ab h,ct,App h,ct,Aqw h]
  have q:∀ F:Int->Int->O R,Bf .i64 (setCells [A09,A09] 0 (Adv sp[j])) (fun m=>Bf .i64 ((setCells [A09,A09] 0 (Adv sp[j])).drop 1) fun o=>F m o)=F ((sp[j].1:Nat):Int) ((sp[j].2:Nat):Int):=fun F=>rfl
  rw[show((beq (List.length (Adv sp[j])) 2)&&((ble 2 2)&&(!false)))=true from rfl,ct]
  rw[q]
  rw[show((decide (0<=((sp[j].1:Nat):Int)))&&((decide (((sp[j].1:Nat):Int)<=((sp[j].2:Nat):Int)))&&((decide (((sp[j].2:Nat):Int)<=(a.length:Int)))&&(decide ((a.length:Int)<=(a.length:Int))))))=true by simp;omega,ct,ct]
  have d:(A9 ((sp.take j).map (Ail a))).length=j:=by simp[A9];omega
  rw[show((beq 1 1)&&((ble ((0+(Int.toNat (j:Int))*1)+1) (List.length (A9 ((sp.take j).map (Ail a))++replicate (m+1) (.str []))))&&(!false)))=true by rw[Aua,d,List.length_replicate];simp,ct,DJ (by omega)]
  have s:=Alp f hs hn (K:=K) m (j+1) fuel (by omega) (by omega)
  refine Axg ?_ s
  congr 1
  rw[show 0+Int.toNat (j:Int)*1=j by omega]
  rw[Ayu _ _ (by omega),d,Nat.sub_self,Axi,Azf]
  rw[List.take_add_one,Aug h]
  show _=A9 (List.map (Ail a) (take j sp++[sp[j]]))++_
  rw[Au9,show List.map (Ail a) [sp[j]]=[Ail a sp[j]]from rfl,<-Io,Aun]
  rfl
def uh{a:Lu}(f:∀ c∈a,c.toNat<128)(t:a.length<=1048576)(hN:1000000000<N){K:Nat->LA->O R}:Gn N a K=K (fw a []).length (A9 (fw a [])):=by
 rw[V3];unfold Md
 obtain⟨sp,l,n,d,q⟩:=ra (N:=N) f (by omega) (K:=K) a [] [] [] N (-1) rfl (by omega) (by rw[Aud];omega) (.inl ⟨rfl,by omega⟩) (by intro p s;cases s)
 refine q.trans ?_
 unfold Jk N3
 rw[show((decide (0<=(sp.length:Int)))&&((decide ((sp.length:Int)<=(sp.length:Int)))&&((decide ((sp.length:Int)<=140737488355328))&&(decide (((sp.length:Int)*((16:Nat):Int))<=140737488355328)))))=true by simp;omega,ct]
 have:=Alp (N:=N) (a:=a) (by omega) n l (K:=K) sp.length 0 N (by omega) (by omega)
 refine Axg ?_ (this.trans ?_)
 ·simp[A9]
 ·rw[d];simp only[Av9,Au3]
  have:=congrArg List.length d
  rw[Auc]at this
  rw[this];rfl
def Adw:Lu->Lu
|[]=>[]
|c::r=>if c=35 then []else c::Adw r
def ui:∀ s:Lu,(Lib.indexByte s 35=-1/\Adw s=s)\/∃ n:Nat,Lib.indexByte s 35=(n:Int)/\n<=s.length/\Adw s=s.take n
|[]=>.inl ⟨rfl,rfl⟩
| c::r=>by
  have d:=ui r
  rw[Lib.indexByte,Adw]
  by_cases h:c=35
  ·right;refine⟨0,?_,by omega,?_⟩
   ·rw[if_pos (by simpa using h)];rfl
   ·rw[if_pos h];rfl
  ·rw[if_neg h]
   rcases d with⟨i1,i2⟩|⟨n,i1,i2,i3⟩
   ·left
    refine⟨?_,by rw[i2]⟩
    rw[i1];simp[h]
   ·right
    refine⟨n+1,?_,by rw[Aub];omega,by rw[Axj,i3]⟩
    rw[i1];simp[h]<;>omega
def Anp(s:Lu):∀ c∈Adw s,c∈s:=by
 induction s with
|nil=>intro c d;exact d
| cons a r f =>
  intro c d
  rw[Adw]at d
  split at d
  ·cases d
  ·rcases Aum.1 d with q|q
   ·rw[q];simp
   ·exact Au2 _ (f c q)
def rc{s:Lu}(f:∀ c∈s,c.toNat<128)(t:s.length<=1048576)(hN:1000000000<N):Hy N R s (fw (Adw s) []):=fun K=>by
 rw[fx];unfold j4
 rw[Wu];unfold Ub
 rw[Cd];unfold Cq
 rw[show(Int.toNat 35).toUInt8=(35:UInt8)from rfl]
 rcases ui s with⟨d,l⟩|⟨n,d,l,q⟩
 ·rw[d,l]
  dsimp only
  rw[show decide ((-1:Int)>=0)=false from rfl,cf,uh f t hN];rfl
 ·rw[d]
  dsimp only
  rw[show decide ((n:Int)>=0)=true from decide_eq_true (by omega),ct]
  rw[show((decide ((0:Int)<=(0:Int)))&&(true&&((decide ((n:Int)<=(s.length:Int)))&&(decide ((s.length:Int)<=(s.length:Int))))))=true by simp;omega,ct,Auf,<-q]
  have u:(Adw s).length<=1048576:=by rw[q,Avd];omega
  rw[uh (fun c v=>f c (Anp s c v)) u hN];rfl
end
end Gx.Ct
namespace Gx.Ct
open Go Go.Proofs Gx.Cf
def uj(w:Ah):Prop:=w≠[]/\∀ c∈w,r_ c=false/\c≠10/\c≠35/\c.toNat<128
def Aff:∀(s r:Lu),(∀ c∈s,r_ c=true)->fw (s++r) []=fw r []
|[],r,_=>rfl
|c::s,r,h=>by
  rw[Aup,fw,if_pos (h c (Avk ..)),if_pos rfl]
  exact Aff s r fun x hx=>h x (Au2 _ hx)
def x7:∀(w r v:Lu),(∀ c∈w,r_ c=false)->fw (w++r) v=fw r (v++w)
|[],r,v,_=>by rw[Au3,Auk]
|c::w,r,v,h=>by rw[Aup,fw,if_neg (by rw[h c (Avk ..)];decide),x7 w r (v++[c]) fun x hx=>h x (Au2 _ hx),Aun];rfl
def Afg{w s r:Lu}(d:uj w)(hs:s≠[])(f:∀ c∈s,r_ c=true):fw (w++(s++r)) []=w::fw r []:=by
 rw[x7 w _ [] fun c h=>(d.2 c h).1,Au3]
 cases s with
|nil=>exact absurd rfl hs
|cons c s =>
  rw[Aup,fw,if_pos (f c (Avk ..)),if_neg d.1,Aff s r fun x hx=>f x (Au2 _ hx)]
def x8:∀(a b:Lu),(∀ c∈a,c≠35)->Adw (a++b)=a++Adw b
|[],b,_=>rfl
|c::a,b,h=>by rw[Aup,Adw,if_neg (h c (Avk ..)),x8 a b fun x hx=>h x (Au2 _ hx)];rfl
def txt:List Lu->Lu->Lu
|[],e=>e
|l::r,e=>l++10::txt r e
def x9{l:Lu}{r:List Lu}{e:Lu}(h:(10:UInt8)∉l):Lib.cut (txt (l::r) e) [10]=(l,txt r e,true):=Ak7 h
def Anq{e:Lu}(h:(10:UInt8)∉e):Lib.cut (txt [] e) [10]=(e,[],false):=Ape h
def ny:∀(L:List Lu)(e:Lu),L.length<=(txt L e).length
|[],e=>by simp
|l::r,e=>by
  have:=ny r e
  rw[txt,Aua,Aub,Aub];omega
def YM:∀(L M:List Lu)(e:Lu),txt (L++M) e=txt L []++txt M e
|[],M,e=>rfl
|l::r,M,e=>by rw[Aup,txt,YM r M e,txt,Aun];rfl
end Gx.Ct
namespace Gx.Ct
open Go Go.Proofs Gx.Cf
section
variable{R:Type}{N:Nat}
def Step(N:Nat)(R:Type)(d:Rd)(ws:List Ah)(d':Rd):Prop:=∀ ⦃K:LA->Int->Int->O R⦄ ⦃fuel:Nat⦄ ⦃rem s M0:Lu⦄ ⦃u:Int⦄ ⦃m:Bool⦄ ⦃nw:Nat⦄ ⦃nx:Int⦄ ⦃cw:LA⦄ ⦃Y:O R⦄,Lib.cut rem [10]=(s,M0,m)->rem.length<=4294967280->Hy N R s ws->(∀ nw' x cw',pq N K d' fuel M0 (wrap .i64 (u+1)) m nw' x cw'=Y)->pq N K d (fuel+1) rem u true nw nx cw=Y
inductive Walk(N:Nat)(R:Type):List (List UInt8)->Rd->Rd->Prop
|nil (d:Rd):Walk N R [] d d
|skip {l:List UInt8} {L:List (List UInt8)} {d d':Rd}:(10:UInt8)∉l->Hy N R l []->Walk N R L d d'->Walk N R (l::L) d d'
|stmt {l:List UInt8} {L:List (List UInt8)} {ws:List Ah} {d e d':Rd}:(10:UInt8)∉l->Hy N R l ws->Step N R d ws e->Walk N R L e d'->Walk N R (l::L) d d'
def rf{K:LA->Int->Int->O R}{e:Lu}{L:List Lu}{d d':Rd}(w:Walk N R L d d'):∀{fuel v:Nat}{nw:Nat}{nx:Int}{cw:LA}{Y:O R},(txt L e).length<=4294967280->v+L.length<=1000000000->(∀ f x l,pq N K d' fuel e ((v+L.length:Nat):Int) true f x l=Y)->pq N K d (fuel+L.length) (txt L e) (v:Int) true nw nx cw=Y:=by
 induction w with
|nil d=>intro fuel v nw nx cw Y _ _ k;exact k _ _ _
|skip q s _ t =>
  intro fuel v nw nx cw Y n u k
  rw[txt,Aua,Aub]at n
  rw[Aub]at u
  refine iG (x9 q) (by rw[txt,Aua,Aub];exact n) s ?_
  rw[DJ (by omega)]
  refine t (v:=v+1) (by omega) (by omega) fun f x l=>?_
  rw[Avj,Axz 1];exact k _ _ _
|stmt q s y _ t =>
  intro fuel v nw nx cw Y n u k
  rw[txt,Aua,Aub]at n
  rw[Aub]at u
  refine y (x9 q) (by rw[txt,Aua,Aub];exact n) s fun f x l=>?_
  rw[DJ (by omega)]
  refine t (v:=v+1) (by omega) (by omega) fun f x l=>?_
  rw[Avj,Axz 1];exact k _ _ _
def YN{d d':Rd}{w:Ah}{ws:List Ah}(l:(w::ws).length<=2000000)(n:d'.th=d.th)(q:d'.bg=d.bg)(f:d'.rs=d.rs)
  (st:∀{Y:O R}{r0:Int->Int->Nat->Nat->Nat->Nat->Nat->Nat->Nat->Nat->Nat->Nat->Nat->Nat->LA->LA->LA->LA->LA->LA->LA->LA->LA->LA->LA->LA->O R}{s:Int->Int->Int->Nat->LA->O R},At (w::ws).length ((w::ws).map AV.str) 0 (w::ws)->(∀ x,x6 r0 d' x=Y)->Ar N (d.rb (w::ws).length ((w::ws).map AV.str) 0) r0 s=Y):Step N R d (w::ws) d':=fun _ _ _ _ _ _ _ _ _ _ _ t hr hs k=>Ani t hr hs l n q f (fun _ _ u kk=>st u kk) fun x=>k _ _ _
def Alq{d:Rd}{b:BusD}(s:fit 2000 N)(hN:1000000000<N)(q:d.bg=true)(t:A7 b.name=true)(u:b.name∉d.bs.map BusD.name)(v:d.bs.length<32)(hdemand:(b.demand.l.length:Int)=d.th/\b.demand.l.length<=1000/\∀ z∈b.demand.l,smallI z)(f:smallI b.shed)(n:(GZ b).length<=2000000):Step N R d (GZ b) {d with bs:=d.bs++[mL b]}:=YN (w:=Ea) (ws:=(GZ b).tail) (d':={d with bs:=d.bs++[mL b]}) n rfl rfl rfl (fun x kk=>Api s hN q t u v hdemand f x kk)
def Aic{d:Rd}{l:LineD}(C:fit 2000 N)(hN:1000000000<N)(v:d.bg=true)(D:A7 l.name=true)(F:l.name∉d.ls.map LineD.name)(G:d.ls.length<64)(hBn:(d.bs.map BusD.name).Nodup)(hBl:d.bs.length<=1000000)(x:0<=l.fr/\l.fr<(d.bs.length:Int))(y:0<=l.tl/\l.tl<(d.bs.length:Int))(A:Fn l.re)(n:Fn l.smin)(q:Fn l.smax)(f:smallI l.limit)(s:smallI l.emer)(t:∀ z∈l.away.l,smallI z)(u:(Hv (d.bs.map BusD.name) l).length<=2000000):Step N R d (Hv (d.bs.map BusD.name) l) {d with ls:=d.ls++[AQ l]}:=YN (w:=Cn) (ws:=(Hv (d.bs.map BusD.name) l).tail) (d':={d with ls:=d.ls++[AQ l]}) u rfl rfl rfl (fun I kk=>Anf C hN v D F G hBn hBl x y A n q f s t I kk)
def Aid{d:Rd}{u:UnitD}(y:fit 2000 N)(hN:1000000000<N)(s:d.bg=true)(A:A7 u.name=true)(C:u.name∉d.us.map UnitD.name)(D:d.us.length<16)(hBn:(d.bs.map BusD.name).Nodup)(hBl:d.bs.length<=1000000)(n:0<=u.bus/\u.bus<(d.bs.length:Int))(F:∀ z∈RX u,smallI z)(f:∀ z∈u.away.l,smallI z)(t:u.state=0\/u.state=1\/u.state=2)(v:∀ g∈u.segs.l,smallI g.width/\smallI g.price)(x:u.segs.l.length<=1000000)(q:(Lx (d.bs.map BusD.name) u).length<=2000000):Step N R d (Lx (d.bs.map BusD.name) u) {d with us:=d.us++[na u]}:=YN (w:=B6) (ws:=(Lx (d.bs.map BusD.name) u).tail) (d':={d with us:=d.us++[na u]}) q rfl rfl rfl (fun G kk=>Ang y hN s A C D hBn hBl n F f t v x G kk)
def Adx{d:Rd}{u:StoreD}(t:fit 2000 N)(hN:1000000000<N)(s:d.bg=true)(v:A7 u.name=true)(x:u.name∉d.ss.map StoreD.name)(y:d.ss.length<8)(hBn:(d.bs.map BusD.name).Nodup)(hBl:d.bs.length<=1000000)(l:0<=u.bus/\u.bus<(d.bs.length:Int))(hcapacity:smallI u.capacity)(hinitial:smallI u.initial)(f:smallI u.final)(hcharge:smallI u.charge)(hdischarge:smallI u.discharge)(n:Fn u.eff)(q:(Hp (d.bs.map BusD.name) u).length<=2000000):Step N R d (Hp (d.bs.map BusD.name) u) {d with ss:=d.ss++[u]}:=YN (w:=Bj) (ws:=(Hp (d.bs.map BusD.name) u).tail) (d':={d with ss:=d.ss++[u]}) q rfl rfl rfl (fun z kk=>Alj t hN s v x y hBn hBl l hcapacity hinitial f hcharge hdischarge n z kk)
def Alr{d:Rd}{t:TieD}(x:fit 2000 N)(hN:1000000000<N)(v:d.bg=true)(y:A7 t.name=true)(A:t.name∉d.ts.map TieD.name)(C:d.ts.length<8)(hBn:(d.bs.map BusD.name).Nodup)(hBl:d.bs.length<=1000000)(n:0<=t.bus/\t.bus<(d.bs.length:Int))(q:(t.imp.l.length:Int)=d.th/\t.imp.l.length<=1000/\∀ z∈t.imp.l,smallI z)(s:(t.exp.l.length:Int)=d.th/\t.exp.l.length<=1000/\∀ z∈t.exp.l,smallI z)(f:(t.price.l.length:Int)=d.th/\t.price.l.length<=1000/\∀ z∈t.price.l,smallI z)(u:(Xj (d.bs.map BusD.name) t).length<=2000000):Step N R d (Xj (d.bs.map BusD.name) t) {d with ts:=d.ts++[x5 t]}:=YN (w:=Dm) (ws:=(Xj (d.bs.map BusD.name) t).tail) (d':={d with ts:=d.ts++[x5 t]}) u rfl rfl rfl (fun D kk=>Apj x hN v y A C hBn hBl n q s f D kk)
def Aan{d:Rd}{o:OutD}(x:fit 2000 N)(hN:1000000000<N)(n:d.bg=true)(y:A7 o.name=true)(z:o.name∉d.os.map OutD.name)(A:d.os.length<64)(hUn:(d.us.map UnitD.name).Nodup)(hUl:d.us.length<=1000000)(hLn:(d.ls.map LineD.name).Nodup)(hLl:d.ls.length<=1000000)(hLk:A1∉d.ls.map LineD.name)(q:(o.corr||o.moves.l.isEmpty)=true)(s:∀ m∈o.moves.l,(0<=m.unit/\m.unit<(d.us.length:Int))/\smallI m.up/\smallI m.down)(t:o.moves.l.length<=1000000)(u:∀ i∈o.lines.l,0<=i/\i<(d.ls.length:Int))(v:o.lines.l.length<=1000000)(f:(Kd (d.ls.map LineD.name) (d.us.map UnitD.name) o).length<=2000000):Step N R d (Kd (d.ls.map LineD.name) (d.us.map UnitD.name) o) {d with os:=d.os++[ud o]}:=YN (w:=Ba) (ws:=(Kd (d.ls.map LineD.name) (d.us.map UnitD.name) o).tail) (d':={d with os:=d.os++[ud o]}) f rfl rfl rfl (fun C kk=>Ah6 x hN n y z A hUn hUl hLn hLl hLk q s t u v C kk)
def uk{d:Rd}{z:Int}{l:List Int}(n:fit 2000 N)(hN:1000000000<N)(f:d.bg=false)(q:1<=z)(s:z<=24)(t:(l.length:Int)=z)(u:∀ z∈l,smallI z):Step N R d ([Be,tx z,De]++l.map tx) {d with bg:=true,th:=z,rs:=l}:=fun _ _ _ _ _ _ _ _ _ _ _ v hr hs k=>Anj n hN f q s t u v hr hs fun x=>k _ _ _
inductive Says(N:Nat)(R:Type):List (List UInt8)->List (List Ah)->Prop
|nil:Says N R [] []
|skip {l:List UInt8} {L:List (List UInt8)} {W:List (List Ah)}:(10:UInt8)∉l->Hy N R l []->Says N R L W->Says N R (l::L) W
|stmt {l:List UInt8} {L:List (List UInt8)} {ws:List Ah} {W:List (List Ah)}:(10:UInt8)∉l->Hy N R l ws->Says N R L W->Says N R (l::L) (ws::W)
inductive Chain(N:Nat)(R:Type):Rd->List (List Ah)->Rd->Prop
|nil (d:Rd):Chain N R d [] d
|cons {d e d':Rd} {ws:List Ah} {W:List (List Ah)}:Step N R d ws e->Chain N R e W d'->Chain N R d (ws::W) d'
def x_{L:List Lu}{W:List (List Ah)}(s:Says N R L W):∀{d d':Rd},Chain N R d W d'->Walk N R L d d':=by
 induction s with
|nil=>intro d d' c;cases c;exact .nil _
|skip f l _ n=>intro d d' c;exact .skip f l (n c)
|stmt f l _ n =>
  intro d d' c
  cases c with
  |cons st c=>exact .stmt f l st (n c)
def Dr{d e d':Rd}{V W:List (List Ah)}(a:Chain N R d V e)(b:Chain N R e W d'):Chain N R d (V++W) d':=by
 induction a with
|nil=>exact b
|cons st _ f=>exact .cons st (f b)
def Un{α:Type}{f:α->List Ah}{st:List α->Rd}:∀(l pre:List α),(∀ p a q,pre++l=p++a::q->pre.length<=p.length->Step N R (st p) (f a) (st (p++[a])))->Chain N R (st pre) (l.map f) (st (pre++l))
|[],pre,_=>by rw[Auk];exact .nil _
|a::l,pre,h=>by
  refine .cons (h pre a l rfl (Aui _)) ?_
  have:=Un l (pre++[a]) fun p b q e d=>h p b q (by rw[<-e,Aun];rfl) (by simp at d;omega)
  rw[Aun]at this
  exact this
def bV(c:CaseD)(l:Sl Int):Prop:=(l.l.length:Int)=c.hours/\∀ z∈l.l,smallI z
def HF(c:CaseD)(p:List BusD):Rd:=⟨true,c.hours,c.reserve.l,p.map mL,[],[],[],[],[]⟩
def Yd{α:Type}{f:α->Ah}{re:α->α}(h:∀ a,f (re a)=f a)(l:List α):(l.map re).map f=l.map f:=by rw[Axd];exact Aw7 fun a _=>h a
def J4{α:Type}{f:α->Ah}{l p q:List α}{a:α}(h:(l.map f).Nodup)(e:l=p++a::q):f a∉p.map f:=fun d=>by
 rw[e,Au9,Auq]at h
 exact(Ax6.1 h).2.2 _ d _ (Avk ..) rfl
def jz{c:CaseD}(s:fit 2000 N)(hN:1000000000<N)(y:1<=c.hours/\c.hours<=24)(hn:(c.buses.l.map BusD.name).Nodup)(t:∀ b∈c.buses.l,A7 b.name=true/\bV c b.demand/\smallI b.shed)(z:c.buses.l.length<=32):Chain N R (HF c []) (c.buses.l.map GZ) (HF c c.buses.l):=by
 refine Un c.buses.l [] fun p a q e _=>?_
 rw[Au3]at e
 obtain⟨u,⟨w2,w3⟩,v⟩:=t a (by rw[e];simp)
 have n:p.length<c.buses.l.length:=by rw[e];simp
 have:=Alq (R:=R) (d:=HF c p) s hN rfl u (by show a.name∉(p.map mL).map BusD.name;rw[Yd (f:=BusD.name) (re:=mL) (fun _=>rfl)];exact J4 hn e) (by show(p.map mL).length<32;rw[Auc];omega) ⟨w2,by omega,w3⟩ v (by simp[GZ];omega)
 have x:HF c (p++[a])={HF c p with bs:=(HF c p).bs++[mL a]}:=by simp[HF]
 rw[x];exact this
def By(c:CaseD)(p:List LineD):Rd:=⟨true,c.hours,c.reserve.l,c.buses.l.map mL,p.map AQ,[],[],[],[]⟩
def YO(c:CaseD):Prop:=(c.buses.l.map BusD.name).Nodup/\c.buses.l.length<=32
def Wj(c:CaseD):(c.buses.l.map mL).map BusD.name=Bt c:=Yd (f:=BusD.name) (re:=mL) (fun _=>rfl) c.buses.l
def eE{c:CaseD}(u:fit 2000 N)(hN:1000000000<N)(hB:YO c)(hn:(c.lines.l.map LineD.name).Nodup)(v:∀ l∈c.lines.l,A7 l.name=true/\(0<=l.fr/\l.fr<(c.buses.l.length:Int))/\(0<=l.tl/\l.tl<(c.buses.l.length:Int))/\(Fn l.re/\Fn l.smin/\Fn l.smax)/\smallI l.limit/\smallI l.emer/\(∀ z∈l.away.l,smallI z)/\(Hv (Bt c) l).length<=2000000)(M:c.lines.l.length<=64):Chain N R (By c []) (c.lines.l.map (Hv (Bt c))) (By c c.lines.l):=by
 refine Un c.lines.l [] fun p a q e _=>?_
 rw[Au3]at e
 obtain⟨x,w2,w3,⟨y,A,C⟩,D,F,G,n⟩:=v a (by rw[e];simp)
 have t:p.length<c.lines.l.length:=by rw[e];simp
 have eb:(By c p).bs.map BusD.name=Bt c:=Wj c
 have s:(By c p).bs.length=c.buses.l.length:=Auc _
 have:=Aic (R:=R) (d:=By c p) u hN rfl x (by show a.name∉(p.map AQ).map LineD.name;rw[Yd (f:=LineD.name) (re:=AQ) (fun _=>rfl)];exact J4 hn e) (by show(p.map AQ).length<64;rw[Auc];omega) (by rw[eb];exact hB.1) (by rw[s];have:=hB.2;omega) (by rw[s];exact w2) (by rw[s];exact w3) y A C D F G (by rw[eb];exact n)
 rw[eb]at this
 have I:By c (p++[a])={By c p with ls:=(By c p).ls++[AQ a]}:=by simp[By]
 rw[I];exact this
def Aao(c:CaseD):(c.lines.l.map AQ).map LineD.name=Cb c:=Yd (f:=LineD.name) (re:=AQ) (fun _=>rfl) c.lines.l
def Aap(c:CaseD):(c.units.l.map na).map UnitD.name=Cl c:=Yd (f:=UnitD.name) (re:=na) (fun _=>rfl) c.units.l
def tQ(c:CaseD)(p:List UnitD):Rd:=⟨true,c.hours,c.reserve.l,c.buses.l.map mL,c.lines.l.map AQ,p.map na,[],[],[]⟩
def eF{c:CaseD}(t:fit 2000 N)(hN:1000000000<N)(hB:YO c)(hn:(c.units.l.map UnitD.name).Nodup)(v:∀ u∈c.units.l,A7 u.name=true/\(0<=u.bus/\u.bus<(c.buses.l.length:Int))/\(∀ z∈RX u,smallI z)/\(∀ z∈u.away.l,smallI z)/\(u.state=0\/u.state=1\/u.state=2)/\(∀ g∈u.segs.l,smallI g.width/\smallI g.price)/\u.segs.l.length<=1000000/\(Lx (Bt c) u).length<=2000000)(I:c.units.l.length<=16):Chain N R (tQ c []) (c.units.l.map (Lx (Bt c))) (tQ c c.units.l):=by
 refine Un c.units.l [] fun p a q e _=>?_
 rw[Au3]at e
 obtain⟨x,w2,w3,y,A,C,D,F⟩:=v a (by rw[e];simp)
 have n:p.length<c.units.l.length:=by rw[e];simp
 have eb:(tQ c p).bs.map BusD.name=Bt c:=Wj c
 have s:(tQ c p).bs.length=c.buses.l.length:=Auc _
 skip
 have:=Aid (R:=R) (d:=tQ c p) t hN rfl x (by show a.name∉(p.map na).map UnitD.name;rw[Yd (f:=UnitD.name) (re:=na) (fun _=>rfl)];exact J4 hn e) (by show(p.map na).length<16;rw[Auc];omega) (by rw[eb];exact hB.1) (by rw[s];have:=hB.2;omega) (by rw[s];exact w2) w3 y A C D (by rw[eb];exact F)
 rw[eb]at this
 have G:tQ c (p++[a])={tQ c p with us:=(tQ c p).us++[na a]}:=by simp[tQ]
 rw[G];exact this
def Mj(c:CaseD)(p:List StoreD):Rd:=⟨true,c.hours,c.reserve.l,c.buses.l.map mL,c.lines.l.map AQ,c.units.l.map na,p,[],[]⟩
def WP{c:CaseD}(s:fit 2000 N)(hN:1000000000<N)(hB:YO c)(hn:(c.stores.l.map StoreD.name).Nodup)(t:∀ u∈c.stores.l,A7 u.name=true/\(0<=u.bus/\u.bus<(c.buses.l.length:Int))/\smallI u.capacity/\smallI u.initial/\smallI u.final/\smallI u.charge/\smallI u.discharge/\Fn u.eff/\(Hp (Bt c) u).length<=2000000)(G:c.stores.l.length<=8):Chain N R (Mj c []) (c.stores.l.map (Hp (Bt c))) (Mj c c.stores.l):=by
 refine Un c.stores.l [] fun p a q e _=>?_
 rw[Au3]at e
 obtain⟨v,w2,w3,x,y,z,A,C,D⟩:=t a (by rw[e];simp)
 have f:p.length<c.stores.l.length:=by rw[e];simp
 have eb:(Mj c p).bs.map BusD.name=Bt c:=Wj c
 have n:(Mj c p).bs.length=c.buses.l.length:=Auc _
 skip
 have:=Adx (R:=R) (d:=Mj c p) s hN rfl v (by show a.name∉p.map StoreD.name;exact J4 hn e) (by show p.length<8;omega) (by rw[eb];exact hB.1) (by rw[n];have:=hB.2;omega) (by rw[n];exact w2) w3 x y z A C (by rw[eb];exact D)
 rw[eb]at this
 have F:Mj c (p++[a])={Mj c p with ss:=(Mj c p).ss++[a]}:=by simp[Mj]
 rw[F];exact this
def xa(c:CaseD)(p:List TieD):Rd:=⟨true,c.hours,c.reserve.l,c.buses.l.map mL,c.lines.l.map AQ,c.units.l.map na,c.stores.l,p.map x5,[]⟩
def kA{c:CaseD}(x:fit 2000 N)(hN:1000000000<N)(hB:YO c)(D:1<=c.hours/\c.hours<=24)(hn:(c.ties.l.map TieD.name).Nodup)(y:∀ t∈c.ties.l,A7 t.name=true/\(0<=t.bus/\t.bus<(c.buses.l.length:Int))/\bV c t.imp/\bV c t.exp/\bV c t.price/\(Xj (Bt c) t).length<=2000000)(F:c.ties.l.length<=8):Chain N R (xa c []) (c.ties.l.map (Xj (Bt c))) (xa c c.ties.l):=by
 refine Un c.ties.l [] fun p a q e _=>?_
 rw[Au3]at e
 obtain⟨z,w2,w3,n,s,A⟩:=y a (by rw[e];simp)
 have u:p.length<c.ties.l.length:=by rw[e];simp
 have eb:(xa c p).bs.map BusD.name=Bt c:=Wj c
 have v:(xa c p).bs.length=c.buses.l.length:=Auc _
 skip
 have:=Alr (R:=R) (d:=xa c p) x hN rfl z (by show a.name∉(p.map x5).map TieD.name;rw[Yd (f:=TieD.name) (re:=x5) (fun _=>rfl)];exact J4 hn e) (by show(p.map x5).length<8;rw[Auc];omega) (by rw[eb];exact hB.1) (by rw[v];have:=hB.2;omega) (by rw[v];exact w2) ⟨w3.1,by have:=w3.1;omega,w3.2⟩ ⟨n.1,by have:=n.1;omega,n.2⟩ ⟨s.1,by have:=s.1;omega,s.2⟩ (by rw[eb];exact A)
 rw[eb]at this
 have C:xa c (p++[a])={xa c p with ts:=(xa c p).ts++[x5 a]}:=by simp[xa]
 rw[C];exact this
def eG(c:CaseD)(p:List OutD):Rd:=⟨true,c.hours,c.reserve.l,c.buses.l.map mL,c.lines.l.map AQ,c.units.l.map na,c.stores.l,c.ties.l.map x5,p.map ud⟩
def iJ{c:CaseD}(s:fit 2000 N)(hN:1000000000<N)(hB:YO c)(hU:(Cl c).Nodup/\c.units.l.length<=16)(hL:(Cb c).Nodup/\c.lines.l.length<=64/\A1∉Cb c)(hn:(c.outs.l.map OutD.name).Nodup)(t:∀ o∈c.outs.l,A7 o.name=true/\(o.corr||o.moves.l.isEmpty)=true/\(∀ m∈o.moves.l,(0<=m.unit/\m.unit<(c.units.l.length:Int))/\smallI m.up/\smallI m.down)/\o.moves.l.length<=1000000/\(∀ i∈o.lines.l,0<=i/\i<(c.lines.l.length:Int))/\o.lines.l.length<=1000000/\(Kd (Cb c) (Cl c) o).length<=2000000)(C:c.outs.l.length<=64):Chain N R (eG c []) (c.outs.l.map (Kd (Cb c) (Cl c))) (eG c c.outs.l):=by
 refine Un c.outs.l [] fun p a q e _=>?_
 rw[Au3]at e
 obtain⟨u,w2,w3,v,x,y,z⟩:=t a (by rw[e];simp)
 have n:p.length<c.outs.l.length:=by rw[e];simp
 have eb:(eG c p).bs.map BusD.name=Bt c:=Wj c
 have D:(eG c p).bs.length=c.buses.l.length:=Auc _
 have eu:(eG c p).us.map UnitD.name=Cl c:=Aap c
 have eL:(eG c p).ls.map LineD.name=Cb c:=Aao c
 have eul:(eG c p).us.length=c.units.l.length:=Auc _
 have ell:(eG c p).ls.length=c.lines.l.length:=Auc _
 have:=Aan (R:=R) (d:=eG c p) s hN rfl u (by show a.name∉(p.map ud).map OutD.name;rw[Yd (f:=OutD.name) (re:=ud) (fun _=>rfl)];exact J4 hn e) (by show(p.map ud).length<64;rw[Auc];omega) (by rw[eu];exact hU.1) (by rw[eul];have:=hU.2;omega) (by rw[eL];exact hL.1) (by rw[ell];have:=hL.2.1;omega) (by rw[eL];exact hL.2.2) w2 (by rw[eul];exact w3) v (by rw[ell];exact x) y (by rw[eL,eu];exact z)
 rw[eL,eu]at this
 have A:eG c (p++[a])={eG c p with os:=(eG c p).os++[ud a]}:=by simp[eG]
 rw[A];exact this
structure GoodC(c:CaseD):Prop where
 hh:1<=c.hours/\c.hours<=24
 hr:bV c c.reserve
 hB:YO c
 hL:(Cb c).Nodup/\c.lines.l.length<=64/\A1∉Cb c
 hU:(Cl c).Nodup/\c.units.l.length<=16
 hS:(cX c).Nodup/\c.stores.l.length<=8
 hT:(Ab1 c).Nodup/\c.ties.l.length<=8
 hO:(sK c).Nodup/\c.outs.l.length<=64
 gB:∀ b∈c.buses.l,A7 b.name=true/\bV c b.demand/\smallI b.shed
 gL:∀ l∈c.lines.l,A7 l.name=true/\(0<=l.fr/\l.fr<(c.buses.l.length:Int))/\(0<=l.tl/\l.tl<(c.buses.l.length:Int))/\(Fn l.re/\Fn l.smin/\Fn l.smax)/\smallI l.limit/\smallI l.emer/\(∀ z∈l.away.l,smallI z)/\(Hv (Bt c) l).length<=2000000
 gU:∀ u∈c.units.l,A7 u.name=true/\(0<=u.bus/\u.bus<(c.buses.l.length:Int))/\(∀ z∈RX u,smallI z)/\(∀ z∈u.away.l,smallI z)/\(u.state=0\/u.state=1\/u.state=2)/\(∀ g∈u.segs.l,smallI g.width/\smallI g.price)/\u.segs.l.length<=1000000/\(Lx (Bt c) u).length<=2000000
 gS:∀ u∈c.stores.l,A7 u.name=true/\(0<=u.bus/\u.bus<(c.buses.l.length:Int))/\smallI u.capacity/\smallI u.initial/\smallI u.final/\smallI u.charge/\smallI u.discharge/\Fn u.eff/\(Hp (Bt c) u).length<=2000000
 gT:∀ t∈c.ties.l,A7 t.name=true/\(0<=t.bus/\t.bus<(c.buses.l.length:Int))/\bV c t.imp/\bV c t.exp/\bV c t.price/\(Xj (Bt c) t).length<=2000000
 gO:∀ o∈c.outs.l,A7 o.name=true/\(o.corr||o.moves.l.isEmpty)=true/\(∀ m∈o.moves.l,(0<=m.unit/\m.unit<(c.units.l.length:Int))/\smallI m.up/\smallI m.down)/\o.moves.l.length<=1000000/\(∀ i∈o.lines.l,0<=i/\i<(c.lines.l.length:Int))/\o.lines.l.length<=1000000/\(Kd (Cb c) (Cl c) o).length<=2000000
def Amc:Rd:=⟨false,0,[],[],[],[],[],[],[]⟩
def As2(c:CaseD):CaseD:=⟨c.hours,Amb c.reserve,.of (c.buses.l.map mL) false false,.of (c.lines.l.map AQ) false false,.of (c.units.l.map na) false false,.of c.stores.l false false,.of (c.ties.l.map x5) false false,.of (c.outs.l.map ud) false false⟩
def um{c:CaseD}(f:fit 2000 N)(hN:1000000000<N)(g:GoodC c):Chain N R Amc (D5 c) (eG c c.outs.l):=by
 refine .cons (e:=HF c []) (uk (R:=R) (d:=Amc) f hN rfl g.hh.1 g.hh.2 g.hr.1 g.hr.2) ?_
 refine Dr (jz f hN g.hh g.hB.1 g.gB g.hB.2) ?_
 refine Dr (e:=By c c.lines.l) (eE f hN g.hB g.hL.1 g.gL g.hL.2.1) ?_
 refine Dr (e:=tQ c c.units.l) (eF f hN g.hB g.hU.1 g.gU g.hU.2) ?_
 refine Dr (e:=Mj c c.stores.l) (WP f hN g.hB g.hS.1 g.gS g.hS.2) ?_
 refine Dr (e:=xa c c.ties.l) (kA f hN g.hB g.hh g.hT.1 g.gT g.hT.2) ?_
 exact iJ f hN g.hB g.hU g.hL g.hO.1 g.gO g.hO.2
def MZ{α:Type}{e:α->LA}{sz:Nat}(d:∀ a,(e a).length=sz)(l:List α):(AV.imm (take (l.length*sz) (l.flatMap e)) l.length sz false false)=Sl.av sz e (.of l false false):=by rw[Aue (by rw[Wh d];exact Aui _)];rfl
def Anr{c:CaseD}{K:LA->Int->Int->O R}{fuel:Nat}{rem:Lu}{u:Int}{nw:Nat}{nx:Int}{cw:LA}:pq N K (eG c c.outs.l) (fuel+1) rem u false nw nx cw=K (As2 c).av 0 0:=by
 unfold pq
 rw[F9];unfold H9
 rw[cf]
 rw[AO,MZ Qu,MZ Fy,MZ Jy,MZ Lk,MZ Ol,MZ Ms]
 rfl
def Als{c:CaseD}{L:List Lu}{e:Lu}{K:LA->Int->Int->O R}(q:fit 2000 N)(hN:1000000000<N)(g:GoodC c)(s:Says N R L (D5 c))(f:(10:UInt8)∉e)(d:Hy N R e [])(t:(txt L e).length<=1048576):He N (txt L e) K=K (As2 c).av 0 0:=by
 rw[QD];unfold MP
 rw[show decide ((((txt L e).length:Nat):Int)>1048576)=false from decide_eq_false (by omega),cf]
 show pq N K Amc N (txt L e) 0 true 0 0 []=_
 have hL:=ny L e
 obtain⟨n,hn⟩:∃ n,N=(n+1+1)+L.length:=⟨N - L.length - 2,by omega⟩
 have main:=rf (R:=R) (N:=N) (K:=K) (e:=e) (x_ s (um q hN g)) (fuel:=n+1+1) (v:=0) (nw:=0) (nx:=0) (cw:=[]) (Y:=K (As2 c).av 0 0) (by omega) (by omega) fun u x y =>
  iG (Anq f) (by
   have:e.length<=(txt L e).length:=by
    clear hL hn t d f s
    induction L with
    |nil=>exact Aui _
    |cons l L z=>rw[txt,Aua,Aub];omega
   omega) d Anr
 rw[<-hn]at main
 exact main
def xb(N:Nat)(R:Type)(d:Rd)(ws:List Ah):Prop:=∃ e:Int,e≠0/\∀{r0:Int->Int->Nat->Nat->Nat->Nat->Nat->Nat->Nat->Nat->Nat->Nat->Nat->Nat->LA->LA->LA->LA->LA->LA->LA->LA->LA->LA->LA->LA->O R}{r1:Int->Int->Int->Nat->LA->O R}{Y:O R},At ws.length (ws.map AV.str) 0 ws->tP r0 r1 e Y->Ar N (d.rb ws.length (ws.map AV.str) 0) r0 r1=Y
def EA{α:Type}{A B pre post:List α}{x:α}(h:A++B=pre++x::post):(∃ q,A=pre++x::q/\post=q++B)\/∃ p,pre=A++p/\B=p++x::post:=by
 rcases List.append_eq_append_iff.1 h with⟨a,f,d⟩|⟨a,f,d⟩
 ·exact Or.inr ⟨a,f,d⟩
 ·cases a with
  |nil=>exact Or.inr ⟨[],by simpa using f.symm,by simpa using d.symm⟩
  |cons y a =>
   simp only[Aup,List.cons.injEq]at d
   exact Or.inl ⟨a,by rw[f,d.1],d.2⟩
def EB{α β:Type}{f:α->β}{l:List α}{pre post:List β}{x:β}(h:l.map f=pre++x::post):∃ p a q,l=p++a::q/\pre=p.map f/\x=f a/\post=q.map f:=by
 obtain⟨p,r,d,n,s⟩:=List.map_eq_append_iff.1 h
 obtain⟨a,q,t,u,v⟩:=List.map_eq_cons_iff.1 s
 exact⟨p,a,q,by rw[d,t],n.symm,u.symm,v.symm⟩
def EC{α:Type}{f:α->Ah}{l p q:List α}{a:α}(h:(l.map f).Nodup)(e:l=p++a::q):(p.map f).Nodup:=by
 rw[e,Au9]at h
 exact(Ax6.1 h).1
def Ans{c:CaseD}{p q:List BusD}{a:BusD}{v:Ah}(n:fit 2000 N)(hN:1000000000<N)(g:GoodC c)(e:c.buses.l=p++a::q):Chain N R (HF c []) (p.map GZ) (HF c p)/\xb N R (HF c p) (GZ a++[v]):=by
 obtain⟨t,⟨w2,w3⟩,u⟩:=g.gB a (by rw[e];simp)
 have s:p.length<c.buses.l.length:=by rw[e];simp
 have z:=g.hB.2
 have A:=g.hh
 refine⟨jz (c:={c with buses:=.of p false false}) n hN g.hh (EC g.hB.1 e) (fun b x=>g.gB b (by rw[e];simp[show b∈p from x])) (by show p.length<=32;omega),2,by decide,?_⟩
 rw[show GZ a++[v]=Ea::a.name::Qn::(a.demand.l.map tx++(cW::tx a.shed::[v])) by simp[GZ]]
 exact fun y k=>Apk (d:=HF c p) n hN rfl t (by show a.name∉(p.map mL).map BusD.name;rw[Yd (f:=BusD.name) (re:=mL) (fun _=>rfl)];exact J4 g.hB.1 e) (by show(p.map mL).length<32;rw[Auc];omega) ⟨w2,by omega,w3⟩ u y k
def Alt{c:CaseD}{p q:List LineD}{a:LineD}{v:Ah}(t:fit 2000 N)(hN:1000000000<N)(g:GoodC c)(e:c.lines.l=p++a::q):Chain N R (By c []) (p.map (Hv (Bt c))) (By c p)/\(v≠[]->(∃ e:Int,e≠0/\WO N R v e)->xb N R (By c p) (Hv (Bt c) a++[v])):=by
 obtain⟨y,w2,w3,⟨z,A,C⟩,D,F,G,I⟩:=g.gL a (by rw[e];simp)
 have u:p.length<c.lines.l.length:=by rw[e];simp
 have U:=g.hL.2.1
 have eb:(By c p).bs.map BusD.name=Bt c:=Wj c
 have n:(By c p).bs.length=c.buses.l.length:=Auc _
 refine⟨eE (c:={c with lines:=.of p false false}) t hN g.hB (EC g.hL.1 e) (fun b M=>g.gL b (by rw[e];simp[show b∈p from M])) (by show p.length<=64;omega),fun s ⟨er,x,S⟩=>⟨er,x,?_⟩⟩
 intro r0 V Y T k
 exact Anm (d:=By c p) t hN rfl y (by show a.name∉(p.map AQ).map LineD.name;rw[Yd (f:=LineD.name) (re:=AQ) (fun _=>rfl)];exact J4 g.hL.1 e) (by show(p.map AQ).length<64;rw[Auc];omega) (by rw[eb];exact g.hB.1) (by rw[n];have:=g.hB.2;omega) (by rw[n];exact w2) (by rw[n];exact w3) z A C D F G S s x (by rw[eb];exact T) k
def Alu{c:CaseD}{p q:List UnitD}{a:UnitD}{v:Ah}(n:fit 2000 N)(hN:1000000000<N)(g:GoodC c)(e:c.units.l=p++a::q):Chain N R (tQ c []) (p.map (Lx (Bt c))) (tQ c p)/\xb N R (tQ c p) (Lx (Bt c) a++[v]):=by
 obtain⟨u,w2,w3,x,y,z,A,F⟩:=g.gU a (by rw[e];simp)
 have s:p.length<c.units.l.length:=by rw[e];simp
 have G:=g.hU.2
 have eb:(tQ c p).bs.map BusD.name=Bt c:=Wj c
 have t:(tQ c p).bs.length=c.buses.l.length:=Auc _
 refine⟨eF (c:={c with units:=.of p false false}) n hN g.hB (EC g.hU.1 e) (fun b C=>g.gU b (by rw[e];simp[show b∈p from C])) (by show p.length<=16;omega),2,by decide,?_⟩
 rw[show Lx (Bt c) a++[v]=B6::a.name::Ay ((tQ c p).bs.map BusD.name) a.bus::T'::tx a.min::lA::tx a.max::Qo::(a.segs.l.flatMap UA++mM a [v]) by rw[eb];simp[Lx,mM]]
 exact fun D k=>Ank (d:=tQ c p) n hN rfl u (by show a.name∉(p.map na).map UnitD.name;rw[Yd (f:=UnitD.name) (re:=na) (fun _=>rfl)];exact J4 g.hU.1 e) (by show(p.map na).length<16;rw[Auc];omega) (by rw[eb];exact g.hB.1) (by rw[t];have:=g.hB.2;omega) (by rw[t];exact w2) w3 x y z A D k
def Aie{c:CaseD}{p q:List StoreD}{a:StoreD}{v:Ah}(f:fit 2000 N)(hN:1000000000<N)(g:GoodC c)(e:c.stores.l=p++a::q):Chain N R (Mj c []) (p.map (Hp (Bt c))) (Mj c p)/\xb N R (Mj c p) (Hp (Bt c) a++[v]):=by
 obtain⟨t,w2,w3,u,x,y,z,A,F⟩:=g.gS a (by rw[e];simp)
 have n:p.length<c.stores.l.length:=by rw[e];simp
 have G:=g.hS.2
 have eb:(Mj c p).bs.map BusD.name=Bt c:=Wj c
 have s:(Mj c p).bs.length=c.buses.l.length:=Auc _
 refine⟨WP (c:={c with stores:=.of p false false}) f hN g.hB (EC g.hS.1 e) (fun b C=>g.gS b (by rw[e];simp[show b∈p from C])) (by show p.length<=8;omega),2,by decide,?_⟩
 intro r0 I Y D k
 exact Alk (d:=Mj c p) f hN rfl t (by show a.name∉p.map StoreD.name;exact J4 g.hS.1 e) (by show p.length<8;omega) (by rw[eb];exact g.hB.1) (by rw[s];have:=g.hB.2;omega) (by rw[s];exact w2) w3 u x y z A (by rw[eb];exact D) k
def Ant{c:CaseD}{p q:List TieD}{a:TieD}{v:Ah}(u:fit 2000 N)(hN:1000000000<N)(g:GoodC c)(e:c.ties.l=p++a::q):Chain N R (xa c []) (p.map (Xj (Bt c))) (xa c p)/\xb N R (xa c p) (Xj (Bt c) a++[v]):=by
 obtain⟨z,w2,⟨w3,n⟩,⟨A,s⟩,⟨C,t⟩,G⟩:=g.gT a (by rw[e];simp)
 have x:p.length<c.ties.l.length:=by rw[e];simp
 have I:=g.hT.2
 have M:=g.hh
 have eb:(xa c p).bs.map BusD.name=Bt c:=Wj c
 have y:(xa c p).bs.length=c.buses.l.length:=Auc _
 refine⟨kA (c:={c with ties:=.of p false false}) u hN g.hB g.hh (EC g.hT.1 e) (fun b D=>g.gT b (by rw[e];simp[show b∈p from D])) (by show p.length<=8;omega),2,by decide,?_⟩
 rw[show Xj (Bt c) a++[v]=Dm::a.name::Ay ((xa c p).bs.map BusD.name) a.bus::Sw::(a.imp.l.map tx++(EZ::(a.exp.l.map tx++(OH::(a.price.l.map tx++[v]))))) by rw[eb];simp[Xj]]
 exact fun F k=>Apl (d:=xa c p) u hN rfl z (by show a.name∉(p.map x5).map TieD.name;rw[Yd (f:=TieD.name) (re:=x5) (fun _=>rfl)];exact J4 g.hT.1 e) (by show(p.map x5).length<8;rw[Auc];omega) (by rw[eb];exact g.hB.1) (by rw[y];have:=g.hB.2;omega) (by rw[y];exact w2) ⟨w3,by omega,n⟩ ⟨A,by omega,s⟩ ⟨C,by omega,t⟩ F k
def Ady{c:CaseD}{p q:List OutD}{a:OutD}{v:Ah}(u:fit 2000 N)(hN:1000000000<N)(g:GoodC c)(e:c.outs.l=p++a::q):Chain N R (eG c []) (p.map (Kd (Cb c) (Cl c))) (eG c p)/\((a.corr=true\/(v≠A1/\v∉Cb c))->xb N R (eG c p) (Kd (Cb c) (Cl c) a++[v])):=by
 obtain⟨A,w2,w3,C,D,F,S⟩:=g.gO a (by rw[e];simp)
 have x:p.length<c.outs.l.length:=by rw[e];simp
 have T:=g.hO.2
 have eu:(eG c p).us.map UnitD.name=Cl c:=Aap c
 have eL:(eG c p).ls.map LineD.name=Cb c:=Aao c
 have eul:(eG c p).us.length=c.units.l.length:=Auc _
 have ell:(eG c p).ls.length=c.lines.l.length:=Auc _
 refine⟨iJ (c:={c with outs:=.of p false false}) u hN g.hB g.hU g.hL (EC g.hO.1 e) (fun b G=>g.gO b (by rw[e];simp[show b∈p from G])) (by show p.length<=64;omega),fun n=>?_⟩
 have s:∃ e:Int,((a.corr=true/\((v∈(eG c p).us.map UnitD.name/\e=2)\/(v∉(eG c p).us.map UnitD.name/\e=12)))\/(a.corr=false/\v≠A1/\v∉(eG c p).ls.map LineD.name/\e=12))/\e≠0:=by
  rw[eu,eL]
  cases I:a.corr with
  |true =>
   by_cases y:v∈Cl c
   ·exact⟨2,Or.inl ⟨rfl,Or.inl ⟨y,rfl⟩⟩,by decide⟩
   ·exact⟨12,Or.inl ⟨rfl,Or.inr ⟨y,rfl⟩⟩,by decide⟩
  |false =>
   rw[I]at n
   rcases n with n|n
   ·cases n
   ·exact⟨12,Or.inr ⟨rfl,n.1,n.2,rfl⟩,by decide⟩
 obtain⟨er,t,z⟩:=s
 refine⟨er,z,?_⟩
 rw[show Kd (Cb c) (Cl c) a++[v]=Ba::a.name::Rs::(a.lines.l.map (Ay ((eG c p).ls.map LineD.name))++(WN ((eG c p).us.map UnitD.name) a++[v])) by rw[eL,eu];simp[Kd,WN]]
 exact fun M k=>Aia (d:=eG c p) u hN rfl A (by show a.name∉(p.map ud).map OutD.name;rw[Yd (f:=OutD.name) (re:=ud) (fun _=>rfl)];exact J4 g.hO.1 e) (by show(p.map ud).length<64;rw[Auc];omega) (by rw[eu];exact g.hU.1) (by rw[eul];have:=g.hU.2;omega) (by rw[eL];exact g.hL.1) (by rw[ell];have:=g.hL.2.1;omega) (by rw[eL];exact g.hL.2.2) w2 (by rw[eul];exact w3) C (by rw[ell];exact D) F t z M k
def Aif{c:CaseD}{p q:List LineD}{a:LineD}{z:Int}(g:GoodC c)(e:c.lines.l=p++a::q)(y:smallI z)(hs:(Hv (Bt c) a).length<=1000):GoodC {c with lines:=.of (p++{a with away:=.of (a.away.l++[z]) false false}::q) false false}:=by
 have en:Cb {c with lines:=.of (p++{a with away:=.of (a.away.l++[z]) false false}::q) false false}=Cb c:=by
  unfold Cb;rw[e];simp[Sl.l]
 have v:(p++{a with away:=.of (a.away.l++[z]) false false}::q).length=c.lines.l.length:=by rw[e];simp
 refine⟨g.hh,g.hr,g.hB,⟨by rw[en];exact g.hL.1,Av2 (Nat.le_of_eq v) g.hL.2.1,by rw[en];exact g.hL.2.2⟩,g.hU,g.hS,g.hT,g.hO,g.gB,?_,g.gU,g.gS,g.gT,?_⟩
 ·intro l f
  have f:l∈p++{a with away:=.of (a.away.l++[z]) false false}::q:=f
  rcases Aul.1 f with h|h
  ·exact g.gL l (by rw[e];simp[h])
  ·rcases Aum.1 h with rfl|h
   ·obtain⟨n,w2,w3,s,d,t,u,C⟩:=g.gL a (by rw[e];simp)
    refine⟨n,w2,w3,s,d,t,fun x hx=>?_,?_⟩
    ·rcases Aul.1 (show x∈a.away.l++[z]from hx)with h|h
     ·exact u x h
     ·rw[Ava.1 h];exact y
    ·show(Hv (Bt c) _).length<=_
     have:(Hv (Bt c) {a with away:=.of (a.away.l++[z]) false false}).length=(Hv (Bt c) a).length+1:=by simp[Hv,Sl.l]
     omega
   ·exact g.gL l (by rw[e];simp[h])
 ·intro o A
  obtain⟨n,w2,w3,s,d,t,u⟩:=g.gO o A
  exact⟨n,w2,w3,s,fun i hi=>⟨(d i hi).1,by have:=(d i hi).2;rw[<-v]at this;exact this⟩,t,by rw[en];exact u⟩
def Aaq{c:CaseD}{p q:List OutD}{a b:OutD}(g:GoodC c)(e:c.outs.l=p++a::q)(hn:b.name=a.name)(f:A7 b.name=true/\(b.corr||b.moves.l.isEmpty)=true/\(∀ m∈b.moves.l,(0<=m.unit/\m.unit<(c.units.l.length:Int))/\smallI m.up/\smallI m.down)/\b.moves.l.length<=1000000/\(∀ i∈b.lines.l,0<=i/\i<(c.lines.l.length:Int))/\b.lines.l.length<=1000000/\(Kd (Cb c) (Cl c) b).length<=2000000):GoodC {c with outs:=.of (p++b::q) false false}:=by
 have en:sK {c with outs:=.of (p++b::q) false false}=sK c:=by
  unfold sK;rw[e];simp[Sl.l,hn]
 have n:(p++b::q).length=c.outs.l.length:=by rw[e];simp
 refine⟨g.hh,g.hr,g.hB,g.hL,g.hU,g.hS,g.hT,⟨by rw[en];exact g.hO.1,Av2 (Nat.le_of_eq n) g.hO.2⟩,g.gB,g.gL,g.gU,g.gS,g.gT,?_⟩
 intro o d
 have d:o∈p++b::q:=d
 rcases Aul.1 d with h|h
 ·exact g.gO o (by rw[e];simp[h])
 ·rcases Aum.1 h with rfl|h
  ·exact f
  ·exact g.gO o (by rw[e];simp[h])
def Afh{c:CaseD}{v:Ah}(n:fit 2000 N)(hN:1000000000<N)(g:GoodC c)(C:∀ ws∈D5 c,ws.length<=1000)(G:v≠[])(I:(∃ e:Int,e≠0/\WO N R v e)\/∃ z,smallI z/\tx z=v){pre post:List (List Ah)}{ws:List Ah}(hW:D5 c=pre++ws::post):∃ d,Chain N R Amc pre d/\(pre≠[]->d.bg=true)/\(xb N R d (ws++[v])\/∃ T,GoodC T/\D5 T=pre++(ws++[v])::post):=by
 have hW0:=hW
 have hh:=g.hh
 cases pre with
|nil =>
  unfold D5 at hW
  obtain⟨s,t⟩:=Ayb hW
  refine⟨Amc,.nil _,fun h=>absurd rfl h,Or.inl ?_⟩
  rw[<-s,show HR c++[v]=Be::tx c.hours::De::(c.reserve.l.map tx++[v]) by simp[HR]]
  exact⟨2,by decide,fun ha k=>Anl (d:=Amc) n hN rfl g.hh.1 g.hh.2 g.hr.1 g.hr.2 ha k⟩
| cons w0 pre =>
  unfold D5 at hW
  obtain⟨rfl,hV⟩:=Ayb hW
  have st:Step N R Amc (HR c) (HF c []):=uk (R:=R) (d:=Amc) n hN rfl g.hh.1 g.hh.2 g.hr.1 g.hr.2
  rcases EA hV with⟨r,s,t⟩|⟨p1,s,hW⟩
  ·obtain⟨p,a,q,e,e1,f,e3⟩:=EB s
   have b:=Ans (R:=R) (v:=v) n hN g e
   exact⟨HF c p,.cons st (by rw[e1];exact b.1),fun _=>rfl,Or.inl (by rw[f];exact b.2)⟩
  have cB:=jz (R:=R) n hN g.hh g.hB.1 g.gB g.hB.2
  rcases EA hW with⟨r,t,u⟩|⟨p2,t,hW⟩
  ·obtain⟨p,a,q,e,e1,f,e3⟩:=EB t
   have b:=Alt (R:=R) (v:=v) n hN g e
   refine⟨By c p,.cons st (by rw[s,e1];exact Dr cB b.1),fun _=>rfl,?_⟩
   rcases I with I|⟨z,hz,rfl⟩
   ·exact Or.inl (by rw[f];exact b.2 G I)
   ·refine Or.inr ⟨_,Aif (z:=z) g e hz (by rw[<-f];exact C ws (by rw[hW0];simp)),?_⟩
    have en:Cb {c with lines:=.of (p++{a with away:=.of (a.away.l++[z]) false false}::q) false false}=Cb c:=by
     unfold Cb;rw[e];simp[Sl.l]
    have ew:Hv (Bt c) {a with away:=.of (a.away.l++[z]) false false}=Hv (Bt c) a++[tx z]:=by simp[Hv,Sl.l]
    unfold D5
    rw[en]
    show HR c::(c.buses.l.map GZ++((p++{a with away:=.of (a.away.l++[z]) false false}::q).map (Hv (Bt c))++_))=_
    rw[Au9,Auq,ew,s,e1,f,u,e3]
    simp[Aun]
    rfl
  have cL:=eE (R:=R) n hN g.hB g.hL.1 g.gL g.hL.2.1
  rcases EA hW with⟨r,u,A⟩|⟨p3,u,hW⟩
  ·obtain⟨p,a,q,e,e1,f,e3⟩:=EB u
   have b:=Alu (R:=R) (v:=v) n hN g e
   exact⟨tQ c p,.cons st (by rw[s,t,e1];exact Dr cB (Dr (e:=By c c.lines.l) cL b.1)),fun _=>rfl,Or.inl (by rw[f];exact b.2)⟩
  have cU:=eF (R:=R) n hN g.hB g.hU.1 g.gU g.hU.2
  rcases EA hW with⟨r,A,D⟩|⟨p4,A,hW⟩
  ·obtain⟨p,a,q,e,e1,f,e3⟩:=EB A
   have b:=Aie (R:=R) (v:=v) n hN g e
   exact⟨Mj c p,.cons st (by rw[s,t,u,e1];exact Dr cB (Dr (e:=By c c.lines.l) cL (Dr (e:=tQ c c.units.l) cU b.1))),fun _=>rfl,Or.inl (by rw[f];exact b.2)⟩
  have cS:=WP (R:=R) n hN g.hB g.hS.1 g.gS g.hS.2
  rcases EA hW with⟨r,D,h6⟩|⟨p5,D,hW⟩
  ·obtain⟨p,a,q,e,e1,f,e3⟩:=EB D
   have b:=Ant (R:=R) (v:=v) n hN g e
   exact⟨xa c p,.cons st (by rw[s,t,u,A,e1];exact Dr cB (Dr (e:=By c c.lines.l) cL (Dr (e:=tQ c c.units.l) cU (Dr (e:=Mj c c.stores.l) cS b.1)))),fun _=>rfl,Or.inl (by rw[f];exact b.2)⟩
  have cT:=kA (R:=R) n hN g.hB g.hh g.hT.1 g.gT g.hT.2
  obtain⟨p,a,q,e,e1,f,e3⟩:=EB hW
  have b:=Ady (R:=R) (v:=v) n hN g e
  refine⟨eG c p,.cons st (by rw[s,t,u,A,D,e1];exact Dr cB (Dr (e:=By c c.lines.l) cL (Dr (e:=tQ c c.units.l) cU (Dr (e:=Mj c c.stores.l) cS (Dr (e:=xa c c.ties.l) cT b.1))))),fun _=>rfl,?_⟩
  by_cases M:a.corr=true\/(v≠A1/\v∉Cb c)
  ·exact Or.inl (by rw[f];exact b.2 M)
  ·have F:a.corr=false:=by cases h:a.corr with|false=>rfl|true=>exact absurd (Or.inl h) M
   obtain⟨U,w2,w3,V,X,w6,w7⟩:=g.gO a (by rw[e];simp)
   have S:a.moves.l=[]:=by rw[F]at w2;simpa using w2
   have hs:(Kd (Cb c) (Cl c) a).length<=1000:=by rw[<-f];exact C ws (by rw[hW0];simp)
   have hs2:(Kd (Cb c) (Cl c) a).length=3+a.lines.l.length:=by simp[Kd,F,S];omega
   have fin:∀ b:OutD,b.name=a.name->Kd (Cb c) (Cl c) b=Kd (Cb c) (Cl c) a++[v]->D5 {c with outs:=.of (p++b::q) false false}=HR c::pre++(ws++[v])::post:=by
    intro b hn y
    show HR c::(c.buses.l.map GZ++(c.lines.l.map (Hv (Bt c))++(c.units.l.map (Lx (Bt c))++(c.stores.l.map (Hp (Bt c))++(c.ties.l.map (Xj (Bt c))++(p++b::q).map (Kd (Cb c) (Cl c)))))))=_
    rw[Au9,Auq,y,s,t,u,A,D,e1,f,e3]
    simp[Aun]
   by_cases Y:v=A1
   ·have y:Kd (Cb c) (Cl c) {a with corr:=true}=Kd (Cb c) (Cl c) a++[v]:=by simp[Kd,F,S,Y]
    refine Or.inr ⟨_,Aaq (b:={a with corr:=true}) g e rfl ⟨U,rfl,w3,V,X,w6,?_⟩,fin _ rfl y⟩
    rw[y,Aua];show _+1<=_;omega
   ·have hL:v∈Cb c:=by
     by_cases hL:v∈Cb c
     ·exact hL
     ·exact absurd (Or.inr ⟨Y,hL⟩) M
    obtain⟨i,i0,i1,hi⟩:=r9 hL
    have i2:i<(c.lines.l.length:Int):=by unfold Cb at i1;rw[Auc]at i1;exact i1
    have y:Kd (Cb c) (Cl c) {a with lines:=.of (a.lines.l++[i]) false false}=Kd (Cb c) (Cl c) a++[v]:=by
     unfold Kd;rw[F]
     show [Ba,a.name,Rs]++((a.lines.l++[i]).map (Ay (Cb c))++(cond false [A1] []++a.moves.l.flatMap (Sx (Cl c))))=_
     rw[S];simp[hi]
    refine Or.inr ⟨_,Aaq (b:={a with lines:=.of (a.lines.l++[i]) false false}) g e rfl ⟨U,w2,w3,V,?_,?_,?_⟩,fin _ rfl y⟩
    ·intro x hx
     rcases Aul.1 (show x∈a.lines.l++[i]from hx)with h|h
     ·exact X x h
     ·rw[Ava.1 h];exact⟨i0,i2⟩
    ·show(a.lines.l++[i]).length<=_
     rw[Aua];show _+1<=_;omega
    ·rw[y,Aua];show _+1<=_;omega
end
end Gx.Ct
namespace Gx.Ct
open Go Go.Proofs Gx.Cf
def Adz{z:Int}(h:BB z=false):smallI z:=by unfold BB at h;simp only[Av0,decide_eq_false_iff_not]at h;unfold smallI;omega
def nz{f:FracD}(h:H2 f=false):Fn f:=by
 unfold H2 at h;simp only[Av0,decide_eq_false_iff_not]at h
 have:=Adz h.1;unfold Fn smallI at *;omega
def QN{α:Type}{p:α->Bool}{l:List α}(h:l.any p=false):∀ x∈l,p x=false:=fun x hx=>by rw[Awv]at h;simpa using h x hx
def Zg{l:List Int}(h:A8 l=false):∀ z∈l,smallI z:=fun z d=>Adz (QN h z d)
def Aar:∀ r:List Ah,(∀ w∈r,w≠[])->2*r.length<=(r.flatMap (32::·)).length
|[],_=>by simp
|w::r,h=>by
  have:=Aar r fun x hx=>h x (by simp[hx])
  have d:w.length≠0:=fun e=>h w (by simp) (Awl.1 e)
  rw[Au1,Aua,Aub,Aub];omega
def Alv{ws:List Ah}(h:Ab2 ws):2*ws.length<=(D6 ws).length:=by
 obtain⟨w,r,rfl,d,f⟩:=h
 have:=Aar r fun x hx=>(f x hx).1
 have l:w.length≠0:=fun e=>d.1 (Awl.1 e)
 rw[D6,Hq,Aua,Aua,Aub,Avc];omega
def Anu{W:List (List Ah)}{ws:List Ah}(h:ws∈W):(D6 ws).length<=(W.flatMap D6).length:=by
 obtain⟨a,b,rfl⟩:=Aze h
 rw[Avn,Au1,Aua,Aua];omega
def Alw{s:Ah}(h:A7 s=true):s≠A1:=fun e=>by rw[e]at h;revert h;decide
structure Acc(c:CaseD):Prop where
 i:CaseI 20000000000000 c
 n:Ok c=true
 h:1<=c.hours/\c.hours<=24
 s:HT c=true
 nm:∀ l∈Cc c,(∀ s∈l,A7 s=true)/\l.Nodup
 k:Qr c=true
 m:Jj c=true
 b:Rt c=false
 l:(Wq c).length<=1048576
def Apq{c:CaseD}(h:Acc c):ZF c=0:=by
 have t:E' c=0:=by
  unfold E'
  rw[if_pos (by simp only[Auv];exact fun l d=>(h.nm l d).1),if_neg]
  rw[Bool.not_eq_true,Awv]
  intro l d
  have key:∀(r seen:List Ah),r.Nodup->(∀ w∈r,w∉seen)->HU seen r=false:=by
   intro r
   induction r with
   |nil=>intro _ _ _;rfl
   | cons w r u =>
    intro seen hn hs
    rw[Avs]at hn
    rw[HU,u (seen++[w]) hn.2 fun x hx f=>by
     rcases Aul.1 f with q|q
     ·exact hs x (by simp[hx]) q
     ·rw[Ava.1 q] at hx;exact hn.1 hx]
    have:=hs w (by simp)
    simpa using this
  rw[key l [] (h.nm l d).2 fun _ _ f=>by cases f];decide
 have:=h.h
 unfold ZF
 rw[if_neg (by rw[h.n];decide),if_neg (by omega),if_neg (by rw[h.s];decide),if_neg (by rw[t];decide),if_neg (by rw[h.k];decide),if_neg (by rw[h.m];decide),if_neg (by rw[h.b];decide),if_neg (by have:=h.l;omega)]
def WQ{i:Int}{n:Nat}(h:Ly i n=true):0<=i/\i<(n:Int):=by unfold Ly at h;simpa using h
def Aas{c:CaseD}(a:Acc c):GoodC c:=by
 have x:=a.k;have hs:=a.s;have hn:=a.n;have y:=a.b;have f:=a.m
 unfold Qr at x;unfold HT at hs;unfold Ok at hn;unfold Rt at y;unfold Jj at f
 simp only[Auh,Auv,decide_eq_true_eq,Av0]at x hs hn y
 rw[Auv]at f
 obtain⟨U,k2,k3,k4,V⟩:=x
 obtain⟨s1,s2,s3⟩:=hs
 obtain⟨n1,n2,n3,n4,n5,n6⟩:=hn
 obtain⟨b0,b1,b2,b3,b4,b5,b6,b7⟩:=y
 have hN:∀ l∈Cc c,(∀ s∈l,A7 s=true)/\l.Nodup:=a.nm
 have pB:=hN (Bt c) (by simp[Cc])
 have pL:=hN (Cb c) (by simp[Cc])
 have pU:=hN (Cl c) (by simp[Cc])
 have pS:=hN (cX c) (by simp[Cc])
 have pT:=hN (Ab1 c) (by simp[Cc])
 have pO:=hN (sK c) (by simp[Cc])
 have sh:∀{l:Sl Int},OI c l=true->A8 l.l=false->bV c l:=fun A X=>⟨by unfold OI at A;simpa using A,Zg X⟩
 have len:∀ ws∈D5 c,ws.length<=524288:=fun ws Y=>by
  have A:=Alv ((Passed.mk a.i Ak5 (fun l hl=>(hN l hl).1) a.k).lines ws Y)
  have X:=Anu Y
  have h3:=a.l
  unfold Wq at h3
  omega
 refine⟨a.h,sh s1 b1,⟨pB.2,n1⟩,⟨pL.2,n2,fun h=>Alw (pL.1 _ h) rfl⟩,⟨pU.2,n3⟩,⟨pS.2,n4⟩,⟨pT.2,n5⟩,⟨pO.2,n6⟩,fun b h=>?_,fun l h=>?_,fun u h=>?_,fun u h=>?_,fun t h=>?_,fun o h=>?_⟩
 ·have q:=QN b2 b h
  unfold cY at q
  rw[Av0]at q
  exact⟨pB.1 _ (Avf h),sh (s2 b h) q.1,Adz q.2⟩
 ·have q:=QN b3 l h
  unfold HS at q
  simp only[Av0]at q
  obtain⟨d,C,D,F,G⟩:=q
  have v:=Zg F
  refine⟨pL.1 _ (Avf h),WQ (U l h).1,WQ (U l h).2,⟨nz d,nz C,nz D⟩,v _ (by simp),v _ (by simp),Zg G,?_⟩
  have:=len (Hv (Bt c) l) (by unfold D5;simp only[Aum,Aul];exact .inr (.inr (.inl (Avf h))))
  omega
 ·have q:=QN b4 u h
  unfold Ys at q
  simp only[Av0]at q
  obtain⟨d,C,D,F,G⟩:=q
  have I:=Zg d;have M:=Zg D;have S:=Zg G
  have ln:=len (Lx (Bt c) u) (by unfold D5;simp only[Aum,Aul];exact .inr (.inr (.inr (.inl (Avf h)))))
  have sl:u.segs.l.length<=(Lx (Bt c) u).length:=by
   have e:(u.segs.l.flatMap UA).length=u.segs.l.length*2:=by
    induction u.segs.l with
    |nil=>rfl
    |cons a r T=>rw[Au1,Aua,T,Aub];show 2+_=_;omega
   unfold Lx;simp only[Aua,e];omega
  refine⟨pU.1 _ (Avf h),WQ (k2 u h).1,fun z hz=>?_,Zg F,?_,fun g hg=>?_,by omega,by omega⟩
  ·rcases Aul.1 (show z∈[u.min,u.max]++([u.noLoad,u.rampUp,u.rampDown,u.startRamp,u.stopRamp,u.upTime,u.downTime,u.startTime,u.hotCost,u.coldCost,u.hotHours,u.reserve,u.reservePrice]++[u.hours,u.output])from hz)with q|q
   ·exact I z q
   ·rcases Aul.1 q with q|q
    ·exact M z q
    ·exact S z q
  ·have:=WQ (k2 u h).2;omega
  ·have:=Zg (QN C g hg)
   exact⟨this _ (by simp),this _ (by simp)⟩
 ·have q:=QN b5 u h
  unfold Sy at q
  rw[Av0]at q
  have d:=Zg q.1
  have ln:=len (Hp (Bt c) u) (by unfold D5;simp only[Aum,Aul];exact .inr (.inr (.inr (.inr (.inl (Avf h))))))
  exact⟨pS.1 _ (Avf h),WQ (k3 u h),d _ (by simp),d _ (by simp),d _ (by simp),d _ (by simp),d _ (by simp),nz q.2,by omega⟩
 ·have q:=QN b6 t h
  unfold E_ at q
  simp only[Av0]at q
  have ln:=len (Xj (Bt c) t) (by unfold D5;simp only[Aum,Aul];exact .inr (.inr (.inr (.inr (.inr (.inl (Avf h)))))))
  have s:=s3 t h
  exact⟨pT.1 _ (Avf h),WQ (k4 t h),sh s.1 q.1,sh s.2.1 q.2.1,sh s.2.2 q.2.2,by omega⟩
 ·have q:=QN b7 o h
  unfold Qq at q
  have ln:=len (Kd (Cb c) (Cl c) o) (by unfold D5;simp only[Aum,Aul];exact .inr (.inr (.inr (.inr (.inr (.inr (Avf h)))))))
  have ml:o.moves.l.length<=(Kd (Cb c) (Cl c) o).length/\o.lines.l.length<=(Kd (Cb c) (Cl c) o).length:=by
   have e:(o.moves.l.flatMap (Sx (Cl c))).length=o.moves.l.length*3:=by
    induction o.moves.l with
    |nil=>rfl
    |cons a r T=>rw[Au1,Aua,T,Aub];show 3+_=_;omega
   unfold Kd;simp only[Aua,e,Auc];omega
  refine⟨pO.1 _ (Avf h),f o h,fun m f=>?_,by omega,fun i hi=>WQ ((V o h).1 i hi),by omega,by omega⟩
  have:=Zg (QN q m f)
  exact⟨WQ ((V o h).2 m f),this _ (by simp),this _ (by simp)⟩
end Gx.Ct
namespace Gx.Ct
open Go Go.Proofs Gx.Cf
def Afi{c:UInt8}(h:45<=c.toNat/\c.toNat<=122):r_ c=false/\c≠10/\c≠35/\c.toNat<128:=by
 have ne:∀ k:UInt8,k.toNat<45->c≠k:=fun k d e=>by rw[e]at h;omega
 refine⟨?_,ne 10 (by decide),ne 35 (by decide),by omega⟩
 unfold r_
 rw[beq_eq_false_iff_ne.2 (ne 32 (by decide)),beq_eq_false_iff_ne.2 (ne 9 (by decide)),beq_eq_false_iff_ne.2 (ne 13 (by decide))];rfl
def wIn(w:Ah):Prop:=w≠[]/\∀ c∈w,45<=c.toNat/\c.toNat<=122
def wIn.ok{w:Ah}(h:wIn w):uj w:=⟨h.1,fun c d=>Afi (h.2 c d)⟩
def Apr (n:Nat):wIn (dec n):=⟨d8 n,fun c d=>by
 have:=Auv.1 (MU n) c d
 unfold Dp at this
 simp only[Auh,decide_eq_true_eq]at this
 omega⟩
def wIn.cons {c:UInt8} {w:Ah} (h:45<=c.toNat/\c.toNat<=122) (d:∀ c ∈ w,45<=c.toNat/\c.toNat<=122):wIn (c::w):=⟨by simp,fun x hx=>by
 rcases Aum.1 hx with rfl|hx
 ·exact h
 ·exact d x hx⟩
def Alx(z:Int):wIn (tx z):=by
 rw[Wi];unfold js zy
 have d:=Apr z.natAbs
 split
 ·exact .cons (by decide) d.2
 ·exact d
def Anv(f:FracD):wIn (Iz f):=by
 have l:=Alx f.num
 have n:=Alx f.den
 refine⟨by unfold Iz;simp,fun c d=>?_⟩
 unfold Iz at d
 rcases Aul.1 d with h|h
 ·exact l.2 c h
 ·rcases Aum.1 h with rfl|h
  ·decide
  ·exact n.2 c h
def Aqx{w:Ah}(h:Ap4 w=true):wIn w:=by
 unfold Ap4 at h
 simp only[Auh,decide_eq_true_eq,Auv]at h
 refine⟨h.1,fun c d=>?_⟩
 have:=h.2.2 c d
 unfold OD at this
 simp only[Auh,decide_eq_true_eq]at this
 omega
def Anw{s:Ah}(h:A7 s=true):wIn s:=by
 unfold A7 at h
 simp only[Auh,decide_eq_true_eq,Auv]at h
 obtain⟨d,_,_,_,f⟩:=h
 refine⟨fun e=>by rw[e]at d;simp at d,fun c l=>?_⟩
 have:=f c l
 unfold Aga OD at this
 simp only[Auh,Axv,decide_eq_true_eq]at this
 omega
def Ad0{c:CaseD}(a:Acc c):∀ ws∈D5 c,ws≠[]/\∀ x∈ws,wIn x:=pe a.i (fun z _=>Alx z) (fun f _ _=>Anv f) (fun _ h=>Aqx h) (fun l d s hs=>Anw ((a.nm l d).1 s hs)) a.k
def Afj:∀(l:List Ah)(w:Ah),(∀ x∈w::l,uj x)->fw (w++l.flatMap (32::·)) []=w::l
|[],w,h=>by
  have d:=h w (by simp)
  rw[Awt,x7 w [] [] fun c f=>(d.2 c f).1,Au3,fw,if_neg d.1]
|v::r,w,h=>by
  have n:=Afj r v fun x hx=>h x (Au2 _ hx)
  have d:=h w (by simp)
  rw[Au1,Aup]
  exact(Afg (s:=[32]) (r:=v++r.flatMap (32::·)) d (by simp) (by decide)).trans (by rw[n])
def Aps{s:Lu}(h:∀ c∈s,c≠35):Adw s=s:=by
 have:=x8 s [] h
 rw[Auk,Adw,Auk]at this
 exact this
section
variable{R:Type}{N:Nat}
def Uo(hN:1000000000<N):Hy N R [] []:=rc (s:=[]) (fun _ h=>by cases h) (by decide) hN
end
end Gx.Ct
namespace Gx.Ct
open Go Go.Proofs Gx.Cf
def Bk(l:List Ah):Lu:=l.flatMap (·++[32])
def Aat(t:Lu):∀ ws:List Ah,(∀ x∈ws,uj x)->fw (Bk ws++t) []=ws++fw t []
|[],_=>rfl
|w::ws,h=>by
  have d:=Aat t ws fun x hx=>h x (Au2 _ hx)
  have e:Bk (w::ws)++t=w++([32]++(Bk ws++t)):=by unfold Bk;simp
  rw[e,Afg (h w (by simp)) (by simp) (by decide),d];rfl
def rg{ws:List Ah}(h:∀ x∈ws,uj x):∀ c∈Bk ws,c≠10/\c≠35/\c.toNat<128:=fun c d=>by
 obtain⟨x,hx,d⟩:=Axa.1 d
 rcases Aul.1 d with d|d
 ·exact((h x hx).2 c d).2
 ·rw[Ava.1 d];decide
section
variable{R:Type}{N:Nat}
def AR{ws u:List Ah}{t:Lu}(hN:1000000000<N)(l:∀ x∈ws,uj x)(n:fw (Adw t) []=u)(d:∀ c∈t,c.toNat<128)(v:(Bk ws++t).length<=1048576):Hy N R (Bk ws++t) (ws++u):=by
 have h:=rg l
 have:=rc (R:=R) (N:=N) (s:=Bk ws++t) (fun c f=>by
  rcases Aul.1 f with q|q
  ·exact(h c q).2.2
  ·exact d c q) v hN
 rw[x8 _ _ fun c d=>(h c d).2.1,Aat _ _ l,n]at this
 exact this
def BI(hN:1000000000<N){L:List Lu}{V:List (List Ah)}(s:Says N R L V):∀ W:List (List Ah),(∀ ws∈W,∀ x∈ws,uj x)->(∀ ws∈W,(Bk ws).length<=1048576)->Says N R (W.map Bk++L) (W++V)
|[],_,_=>s
|ws::W,h,d=>by
  have a:=AR (R:=R) (t:=[]) (u:=[]) hN (h ws (by simp)) rfl (fun _ h=>by cases h) (by rw[Auk];exact d ws (by simp))
  rw[Auk,Auk]at a
  exact .stmt (fun f=>(rg (h ws (by simp)) 10 f).1 rfl) a (BI hN s W (fun x hx=>h x (by simp[hx])) fun x hx=>d x (by simp[hx]))
def Anx(N:Nat)(R:Type)(w:Ah):Prop:=uj w/\((∃ e:Int,e≠0/\WO N R w e)\/∃ z,smallI z/\tx z=w)/\w≠B6/\w≠Bj/\w≠Dm/\w≠Ba
def Aly{w:Ah}(h:uj w):fw (Adw w) []=[w]:=by
 rw[Aps fun c d=>(h.2 c d).2.2.1]
 have:=Afj [] w (fun x hx=>by rw[Ava.1 hx];exact h)
 rw[Awt,Auk]at this
 exact this
def ri{s:Lu}{K:LA->Int->Int->O R}(d:s.length<=1048576):He N s K=pq N K Amc N s 0 true 0 0 []:=by
 rw[QD];unfold MP
 rw[show decide ((s.length:Int)>1048576)=false from decide_eq_false (by omega),cf]
 rfl
def uo{K:LA->Int->Int->O R}{L M:List Lu}{V:List (List Ah)}{l:Lu}{ws:List Ah}{d:Rd}(hN:1000000000<N)(s:Says N R L V)(ch:Chain N R Amc V d)(f:(10:UInt8)∉l)(hs:Hy N R l ws)(y:ws≠[])(z:ws.length<=2000000)(b:xb N R d ws)(q:(txt (L++l::M) []).length<=1048576):∃ x e,e≠0/\x.length=8/\He N (txt (L++l::M) []) K=K x ((L.length+1:Nat):Int) e:=by
 obtain⟨e,t,st⟩:=b
 refine⟨[.int .i64 0,.nsl,.nsl,.nsl,.nsl,.nsl,.nsl,.nsl],e,t,rfl,?_⟩
 have hL:=ny (L++l::M) []
 rw[Aua,Aub]at hL
 have u:txt (L++l::M) []=txt L (txt (l::M) []):=by
  clear hL q st s ch
  induction L with
  |nil=>rfl
  |cons a L A=>rw[Aup,txt,A];rfl
 have hL2:L.length+(M.length+1)<=1048576:=by omega
 rw[ri q]
 rw[u]at q ⊢
 obtain⟨n,hn⟩:∃ n,N=(n+1)+L.length:=⟨N - L.length - 1,by omega⟩
 have C:(txt (l::M) []).length<=(txt L (txt (l::M) [])).length:=by
  rw[<-u,YM,Aua];omega
 have main:=rf (R:=R) (N:=N) (K:=K) (e:=txt (l::M) []) (x_ s ch) (fuel:=n+1) (v:=0) (nw:=0) (nx:=0) (cw:=[]) (Y:=K [.int .i64 0,.nsl,.nsl,.nsl,.nsl,.nsl,.nsl,.nsl] ((L.length+1:Nat):Int) e) (by omega) (by omega) fun D x F=>by
  cases ws with
  |nil=>exact absurd rfl y
  |cons w ws =>
   refine Apn (e:=e) (x9 f) (by omega) hs z t (fun r0 I G k=>st G k) ?_
   rw[Aux,DJ (by omega)]
 rw[<-hn]at main
 exact main
def Aau{c:CaseD}{pre post:List (List Ah)}{ws:List Ah}(h:D5 c++[[]]=pre++ws::post):(∃ q,D5 c=pre++ws::q/\post=q++[[]])\/(pre=D5 c/\ws=[]/\post=[]):=by
 rcases EA h with⟨q,f,d⟩|⟨p,f,d⟩
 ·exact Or.inl ⟨q,f,d⟩
 ·cases p with
  |nil =>
   obtain⟨n,l⟩:=Ayb d
   exact Or.inr ⟨by rw[f,Auk],n.symm,l.symm⟩
  |cons x p =>
   obtain⟨n,l⟩:=Ayb d
   exact absurd (congrArg List.length l) (by simp)
def xc{e:Lu}:∀{L:List Lu}{l:Lu},l∈L->l.length<=(txt L e).length
| a::L,l,h=>by
  rw[txt,Aua,Aub]
  rcases Aum.1 h with rfl|h
  ·omega
  ·have:=xc (e:=e) h
   omega
def Aav(hN:1000000000<N):Says N R [Bk []] []:=.skip (by simp[Bk]) (Uo hN) .nil
def xd{c:CaseD}{L:List Lu}{K:LA->Int->Int->O R}(d:fit 2000 N)(hN:1000000000<N)(g:GoodC c)(s:Says N R L (D5 c))(f:(txt L []).length<=1048576):∃ x,x.length=8/\He N (txt L []) K=K x 0 0:=⟨_,rfl,Als d hN g s (by simp) (Uo hN) f⟩
def Ad1{c:CaseD}{pre post:List (List Ah)}{ws:List Ah}{w:Ah}{K:LA->Int->Int->O R}(V:fit 2000 N)(hN:1000000000<N)(a:Acc c)(G:∀ ws∈D5 c,ws.length<=1000)(h:D5 c++[[]]=pre++ws::post)(v:w=[35]\/w=[10]\/Anx N R w)(y:(txt (pre.map Bk++(Bk ws++w)::post.map Bk) []).length<=1048576):∃ x n e,x.length=8/\He N (txt (pre.map Bk++(Bk ws++w)::post.map Bk) []) K=K x n e/\(e=0/\n=0\/e≠0/\n=((pre.length+1:Nat):Int)):=by
 have g:=Aas a
 have ok:∀ ws∈D5 c,∀ x∈ws,uj x:=fun ws v x hx=>((Ad0 a ws v).2 x hx).ok
 have C:∀ l∈pre.map Bk++(Bk ws++w)::post.map Bk,l.length<=1048576:=fun l h=>Av2 (xc h) y
 have f:∀ l∈pre,(Bk l).length<=1048576:=fun l h=>C _ (List.mem_append_left _ (Avf h))
 have D:∀ l∈post,(Bk l).length<=1048576:=fun l h=>C _ (List.mem_append_right _ (Au2 _ (Avf h)))
 have z:(Bk ws++w).length<=1048576:=C _ (by simp)
 have good:∀{X:CaseD}{L:List Lu},GoodC X->Says N R L (D5 X)->(txt L []).length<=1048576->∃ x n e,x.length=8/\He N (txt L []) K=K x n e/\(e=0/\n=0\/e≠0/\n=((pre.length+1:Nat):Int)):=fun g s y=>by
  obtain⟨x,I,hx⟩:=xd (K:=K) V hN g s y
  exact⟨x,0,0,I,hx,Or.inl ⟨rfl,rfl⟩⟩
 have S:w=[10]->txt (pre.map Bk++(Bk ws++w)::post.map Bk) []=txt (pre.map Bk++Bk ws::[]::post.map Bk) []:=fun q=>by
  rw[q,YM,YM,txt,txt,txt];simp
 have no10:∀{l:List Ah},(∀ x∈l,uj x)->(10:UInt8)∉Bk l:=fun h F=>(rg h 10 F).1 rfl
 rcases Aau h with⟨q,A,U⟩|⟨A,U,h3⟩
 ·have oP:∀ l∈pre,∀ x∈l,uj x:=fun l y=>ok l (by rw[A];simp[y])
  have oW:∀ x∈ws,uj x:=ok ws (by rw[A];simp)
  have oQ:∀ l∈q,∀ x∈l,uj x:=fun l y=>ok l (by rw[A];simp[y])
  have sQ:Says N R (post.map Bk) q:=by
   have:=BI (R:=R) hN (Aav hN) q oQ fun l y=>D l (by rw[U];simp[y])
   rw[Auk]at this
   rw[U,Au9];exact this
  have sp0:Hy N R (Bk ws) ws:=by
   have:=AR (R:=R) (t:=[]) (u:=[]) hN oW rfl (fun _ h=>by cases h) (by rw[Auk];rw[Aua]at z;omega)
   rw[Auk,Auk]at this
   exact this
  rcases v with v|v|v
  ·refine good g ?_ y
   rw[A]
   refine BI hN (.stmt ?_ ?_ sQ) pre oP f
   ·rw[v];intro F
    rcases Aul.1 F with q|q
    ·exact no10 oW q
    ·revert q;decide
   ·have:=AR (R:=R) (t:=w) (u:=[]) hN oW (by rw[v];rfl) (by rw[v];decide) z
    rw[Auk]at this;exact this
  ·rw[S v]at y ⊢
   refine good g ?_ y
   rw[A]
   exact BI hN (.stmt (no10 oW) sp0 (.skip (by simp) (Uo hN) sQ)) pre oP f
  ·obtain⟨wk,wn,_⟩:=v
   have spw:Hy N R (Bk ws++w) (ws++[w]):=AR hN oW (Aly wk) (fun c h=>(wk.2 c h).2.2.2) z
   have n10:(10:UInt8)∉Bk ws++w:=fun F=>by
    rcases Aul.1 F with q|q
    ·exact no10 oW q
    ·exact(wk.2 10 q).2.1 rfl
   have sP:=BI (R:=R) hN .nil pre oP f
   rw[Auk,Auk]at sP
   obtain⟨d,ch,_,Y|⟨X,g',e'⟩⟩:=Afh (R:=R) V hN g G wk.1 wn A
   ·have hs:=G ws (by rw[A];simp)
    obtain⟨x,e,he,I,T⟩:=uo (K:=K) hN sP ch n10 spw (by simp) (by rw[Aua];show _+1<=_;omega) Y y
    rw[Auc]at T
    exact⟨x,_,e,I,T,Or.inr ⟨he,rfl⟩⟩
   ·refine good g' ?_ y
    rw[e']
    exact BI hN (.stmt n10 spw sQ) pre oP f
 ·subst U;subst h3
  rw[A]at f
  rcases v with v|v|v
  ·refine good g ?_ y
   rw[A]
   have:=BI (R:=R) hN (.skip (l:=Bk []++w) (by rw[v];decide) (by rw[v];exact rc (s:=[35]) (by decide) (by decide) hN) .nil) (D5 c) ok f
   rw[Auk]at this
   exact this
  ·rw[S v]at y ⊢
   refine good g ?_ y
   rw[A]
   have:=BI (R:=R) hN (.skip (l:=Bk []) (by simp[Bk]) (Uo hN) (.skip (l:=[]) (by simp) (Uo hN) .nil)) (D5 c) ok f
   rw[Auk]at this
   exact this
  ·obtain⟨wk,_,w1,w2,w3,w4⟩:=v
   have sP:=BI (R:=R) hN .nil (D5 c) ok f
   rw[Auk,Auk]at sP
   have hh:=g.hh
   have Y:xb N R (eG c c.outs.l) [w]:=by
    refine⟨2,by decide,fun ha k=>Apm (d:=eG c c.outs.l) (n:=c.hours.toNat) hN rfl ?_ (by omega) ?_ ?_ w1 w2 w3 w4 ha k⟩
    ·show c.hours=_;omega
    ·show(c.buses.l.map mL).length<=1000;rw[Auc];have:=g.hB.2;omega
    ·show(c.lines.l.map AQ).length<=1000;rw[Auc];have:=g.hL.2.1;omega
   rw[A]at y ⊢
   obtain⟨x,e,he,I,T⟩:=uo (K:=K) (M:=[]) (l:=Bk []++w) hN sP (um V hN g) (fun F=>(wk.2 10 F).2.1 rfl) (AR (ws:=[]) hN (fun _ h=>by cases h) (Aly wk) (fun c h=>(wk.2 c h).2.2.2) z) (by simp) (by simp) Y y
   rw[Auc]at T
   exact⟨x,_,e,I,T,Or.inr ⟨he,rfl⟩⟩
end
end Gx.Ct
namespace Gx.Ct
open Go Go.Proofs Gx.Cf
section
variable{R:Type}{N:Nat}
def Aig{x:RatD}{z:Int}(hx:x.can (z:Rat))(n:1073741824<z/\z<2147483648)(f:fit (4*(x.m+10)+1000) N){K:Int->Bool->O R}:Wb N x.av false K=K 0 false:=by
 have q:=f.1
 obtain⟨d,l,d2⟩:=bR (R:=R) (N:=N) (v:=1073741824) (by omega) (by omega)
 have md:d.m<=2:=by
  rw[l.m];show max (Bb (Rat.num ((1073741824:Int):Rat)).natAbs).length (Bb (Rat.den ((1073741824:Int):Rat))).length<=2
  rw[Avh,Awe,YK (by omega),T1];decide
 rw[PS];unfold MH
 rw[d2,Asv,ct,tJ,ct,tJ,ct,bO,bO,ju hx (by unfold Rj;omega) l (by unfold Rj;omega) (f.le (by omega))]
 rw[show decide (n_ z 1073741824>0)=true by unfold n_;rw[decide_eq_true_eq];split<;>(try split)<;>omega]
 rfl
def Alz{z:Int}{w:Ah}(d:js z=w)(l:1073741824<z/\z<2147483648)(n:rW w<=4096)(q:w.length<=100)(f:fit 1500 N){K:Int->Bool->Int->O R}:Tt N w K=K 0 false 0:=by
 rw[IU];unfold VH
 have e:BH w=z:=by rw[<-d];exact JI z
 rw[bT (by rw[<-d];exact MV z) (f.le (by omega)),if_neg (by omega),e]
 show Wb N (RatD.av ⟨decide (z<0),.of (Bb z.natAbs) false false,.of [1] false false⟩) false _=_
 have c:RatD.can ⟨decide (z<0),.of (Bb z.natAbs) false false,.of [1] false false⟩ (z:Rat):=⟨by rw[Avh],by rw[Avh];rfl,by rw[Awe,T1];rfl⟩
 exact Aig c l (f.le (by
  rw[c.m]
  have:=Adn (v:=z) (by omega)
  omega))
def Al0{z:Int}{w:Ah}(d:js z=w)(f:1073741824<z/\z<2147483648)(l:rW w<=4096)(n:w.length<=100)(q:fit 1500 N):WO N R w 3:=fun h s k=>by
 rw[P2];unfold Ra
 rw[Me];unfold Mw
 refine Ck h s fun x hx=>?_
 show Tt N w _=_
 rw[Alz d f l n q]
 exact JE rfl (k x hx)
def Al1:List Ah:=[[48],[49],[45,53],[49,47,50],[97],[98,48],[99,97,115,101],[98,117,115],[108,105,110,101],[97,119,97,121],[111,110],[49,48,77,87],[48,46,53,71,87],[51,48,109,105,110],[50,104],[53,69,85,82,47,77,87,104],[51,69,85,82],[120],[99,111,114,114,101,99,116,105,118,101],[49,48,55,51,55,52,49,56,50,53],[49,46,53],[51,47,48],[35],[117,48],[108,48],[66],[55,77,87,104],[53,48,37],[10],[100,101,109,97,110,100]]
instance(w:Ah):Decidable (uj w):=by unfold uj;infer_instance
def Anz(d:fit 2000 N):∀ w∈Al1,w=[35]\/w=[10]\/Anx N R w:=by
 have num:∀ z:Int,smallI z->∀ w:Ah,tx z=w->uj w->w≠B6/\w≠Bj/\w≠Dm/\w≠Ba->Anx N R w:=fun z f w e ok h=>⟨ok,Or.inr ⟨z,f,e⟩,h⟩
 have no:∀ w:Ah,SP w=false->w.length<=100->uj w->w≠B6/\w≠Bj/\w≠Dm/\w≠Ba->Anx N R w:=fun w h l ok n=>⟨ok,Or.inl ⟨2,by decide,Alm h l (d.le (by omega))⟩,n⟩
 intro w q
 have key:w=[35]\/w=[10]\/w=[48]\/w=[49]\/w=[45,53]\/w=[49,48,55,51,55,52,49,56,50,53]\/(SP w=false/\w.length<=100/\uj w/\w≠B6/\w≠Bj/\w≠Dm/\w≠Ba):=by
  revert w;decide
 rcases key with h|h|h|h|h|h|h
 ·exact Or.inl h
 ·exact Or.inr (Or.inl h)
 ·subst h;exact Or.inr (Or.inr (num 0 (by unfold smallI;omega) _ (by kernel_rfl) (by decide) (by decide)))
 ·subst h;exact Or.inr (Or.inr (num 1 (by unfold smallI;omega) _ (by kernel_rfl) (by decide) (by decide)))
 ·subst h;exact Or.inr (Or.inr (num (-5) (by unfold smallI;omega) _ (by kernel_rfl) (by decide) (by decide)))
 ·subst h;exact Or.inr (Or.inr ⟨by decide,Or.inl ⟨3,by decide,Al0 (z:=1073741825) (by kernel_rfl) (by omega) (by decide) (by decide) (d.le (by omega))⟩,by decide⟩)
 ·exact Or.inr (Or.inr (no w h.1 h.2.1 h.2.2.1 h.2.2.2))
def Apt{K:LA->Int->Int->O R}{d:Rd}(f:d.bg=true):∃ x,x.length=8/\∀(fuel:Nat)(rem:Lu)(u:Int)(nw:Nat)(nx:Int)(cw:LA),pq N K d (fuel+1) rem u false nw nx cw=K x 0 0:=by
 refine⟨[.int .i64 d.th,.imm ((A0 d.rs).take (d.rs.length*1)) d.rs.length 1 false false,.imm ((d.bs.flatMap BusD.av).take (d.bs.length*3)) d.bs.length 3 false false,.imm ((d.ls.flatMap LineD.av).take (d.ls.length*12)) d.ls.length 12 false false,.imm ((d.us.flatMap UnitD.av).take (d.us.length*22)) d.us.length 22 false false,.imm ((d.ss.flatMap StoreD.av).take (d.ss.length*9)) d.ss.length 9 false false,.imm ((d.ts.flatMap TieD.av).take (d.ts.length*5)) d.ts.length 5 false false,.imm ((d.os.flatMap OutD.av).take (d.os.length*4)) d.os.length 4 false false],rfl,fun fuel rem u nw nx cw=>?_⟩
 unfold pq
 rw[F9];unfold H9
 rw[cf,f]
 exact rfl
def Aaw{K:LA->Int->Int->O R}(hN:1000000000<N):∃ x,x.length=8/\He N [] K=K x 1 2:=by
 refine⟨[.int .i64 0,.nsl,.nsl,.nsl,.nsl,.nsl,.nsl,.nsl],rfl,?_⟩
 rw[ri (by decide)]
 obtain⟨n,rfl⟩:∃ n,N=n+2:=⟨N - 2,by omega⟩
 refine iG (s:=[]) (M0:=[]) (m:=false) rfl (by decide) (Uo hN) ?_
 unfold pq
 rw[F9];unfold H9
 rw[cf]
 rfl
def Aih{c:CaseD}{pre post:List (List Ah)}{K:LA->Int->Int->O R}(y:fit 2000 N)(hN:1000000000<N)(a:Acc c)(z:∀ ws∈D5 c,ws.length<=1000)(h:D5 c++[[]]=pre++post)(A:pre≠[])(t:(txt (pre.map Bk) []).length<=1048576):∃ x,x.length=8/\He N (txt (pre.map Bk) []) K=K x 0 0:=by
 have g:=Aas a
 have ok:∀ ws∈D5 c,∀ x∈ws,uj x:=fun ws C x hx=>((Ad0 a ws C).2 x hx).ok
 have f:∀ l∈pre,(Bk l).length<=1048576:=fun l h=>Av2 (xc (Avf h)) t
 cases post with
|nil =>
  rw[Auk]at h
  rw[<-h]at t f ⊢
  have s:=BI (R:=R) hN (Aav hN) (D5 c) ok fun l h=>f l (by simp[h])
  rw[Auk]at s
  rw[Au9]at t ⊢
  exact xd y hN g s t
| cons ws post =>
  rcases Aau h with⟨q,u,D⟩|⟨u,D,S⟩
  ·obtain⟨d,ch,F,_⟩:=Afh (R:=R) (v:=tx 0) y hN g z (Ads 0) (Or.inr ⟨0,by unfold smallI;omega,rfl⟩) u
   have s:=BI (R:=R) hN .nil pre (fun l t=>ok l (by rw[u];simp[t])) f
   rw[Auk,Auk]at s
   rw[ri t]
   have hL:=ny (pre.map Bk) []
   obtain⟨n,hn⟩:∃ n,N=(n+1+1)+(pre.map Bk).length:=⟨N - (pre.map Bk).length - 2,by omega⟩
   obtain⟨x,G,hx⟩:=Apt (N:=N) (K:=K) (d:=d) (F A)
   refine⟨x,G,?_⟩
   have main:=rf (R:=R) (N:=N) (K:=K) (e:=[]) (x_ s ch) (fuel:=n+1+1) (v:=0) (nw:=0) (nx:=0) (cw:=[]) (Y:=K x 0 0) (by omega) (by omega) fun I x' M =>
    iG (s:=[]) (M0:=[]) (m:=false) rfl (by decide) (Uo hN) (hx _ _ _ _ _ _)
   rw[<-hn]at main
   exact main
  ·rw[u]at t f ⊢
   have s:=BI (R:=R) hN .nil (D5 c) ok f
   rw[Auk,Auk]at s
   exact xd y hN g s t
end
end Gx.Ct
namespace Gx.Ct
open Go Go.Proofs Gx.Cf
def Aqy{c:UInt8}(h:45<=c.toNat/\c.toNat<=122)(r:Lu)(ws:List Ah)(w:Ah):Gb (c::r) ws w false=Gb r ws (w++[c]) false:=by
 obtain⟨d,f,l,_⟩:=Afi h
 have n:uD c=false:=by
  unfold r_ at d
  unfold uD
  rw[beq_eq_false_iff_ne.2 f,beq_eq_false_iff_ne.2 l,d];rfl
 rw[Gb,if_neg f,if_neg l,if_neg (by rw[n];decide)];rfl
def xe:∀(x:Ah)(r:Lu)(ws:List Ah)(w:Ah),(∀ c∈x,45<=c.toNat/\c.toNat<=122)->Gb (x++r) ws w false=Gb r ws (w++x) false
|[],r,ws,w,_=>by rw[Au3,Auk]
|c::x,r,ws,w,h=>by rw[Aup,Aqy (h c (by simp)),xe x r ws (w++[c]) fun y d=>h y (by simp[d]),Aun];rfl
def Afk:∀(l:List Ah)(w:Ah)(ws:List Ah)(r:Lu),w≠[]->(∀ x∈l,wIn x)->Gb (l.flatMap (32::·)++10::r) ws w false=(ws++w::l)::Gb r [] [] false
|[],w,ws,r,d,_=>by
  rw[Awt,Au3,Gb,if_pos rfl];unfold jQ;rw[if_neg d]
|x::l,w,ws,r,d,h=>by
  have hx:=h x (by simp)
  rw[Au1,Aun,Aup,Gb,if_neg (by decide),if_neg (by decide),if_pos (by decide),xe x _ _ _ hx.2,Au3,Afk l x _ r hx.1 fun y f=>h y (by simp[f])]
  unfold jQ;rw[if_neg d];simp
def An0{ws:List Ah}(f:ws≠[])(h:∀ x∈ws,wIn x)(r:Lu):Gb (D6 ws++r) [] [] false=ws::Gb r [] [] false:=by
 cases ws with
|nil=>exact absurd rfl f
|cons w l =>
  have d:=h w (by simp)
  rw[D6,Hq,Aun,Aun,xe w _ _ _ d.2,Au3]
  exact Afk l w [] r d.1 fun y n=>h y (by simp[n])
def rj:∀ W:List (List Ah),(∀ ws∈W,ws≠[]/\∀ x∈ws,wIn x)->H3 (W.flatMap D6)=W++[[]]
|[],_=>rfl
|ws::W,h=>by
  have d:=rj W fun x hx=>h x (by simp[hx])
  obtain⟨f,l⟩:=h ws (by simp)
  unfold H3 at d ⊢
  rw[Au1,An0 f l,d];rfl
end Gx.Ct
namespace Gx.Cf
open Go Go.Proofs
section
variable{R:Type}
def Ad2:∀ i,i<16->A7 [98,Ass.getD i 0]=true/\A7 [108,Ass.getD i 0]=true/\A7 [117,Ass.getD i 0]=true/\A7 [111,Ass.getD i 0]=true:=by decide
end
end Gx.Cf
namespace Gx.Ct
open Go Go.Proofs Gx.Cf
def Afl{n:Nat}:∀ r:List Ah,(∀ x∈r,x.length<=n)->(r.flatMap (32::·)).length<=(n+1)*r.length
|[],_=>by simp
|w::r,h=>by
  have:=Afl r fun x hx=>h x (by simp[hx])
  have d:=h w (by simp)
  rw[Au1,Aua,Aub,Aub,Avt];omega
def An1{W:List (List Ah)}(h:∀ ws∈W,ws.length<=60/\∀ x∈ws,x.length<=61):(W.flatMap D6).length<=4000*W.length:=by
 induction W with
|nil=>simp
| cons ws W f =>
  have:=f fun x hx=>h x (by simp[hx])
  obtain⟨l,d⟩:=h ws (by simp)
  have n:(D6 ws).length<=4000:=by
   unfold D6
   cases ws with
   |nil=>decide
   |cons w r =>
    have q:=d w (by simp)
    have:=Afl r fun x hx=>d x (by simp[hx])
    rw[Aub]at l
    rw[Hq,Aua,Aua,Avc];omega
  rw[Au1,Aua,Aub];omega
def WR{z:Int}(h:-1048576<=z/\z<=1048576):BB z=false:=by unfold BB;rw[decide_eq_false (by omega),decide_eq_false (by omega)];rfl
def Hn{l:List Int}(h:∀ z∈l,-1048576<=z/\z<=1048576):A8 l=false:=by unfold A8;rw[Awv];exact fun z d=>by rw[WR (h z d)];decide
def AS{α:Type}{p:α->Bool}{l:List α}(h:∀ x∈l,p x=false):l.any p=false:=by rw[Awv];exact fun x hx=>by rw[h x hx];decide
def Hg{lo hi v:Int}(h:F5 lo hi v=true):lo<=v/\v<=hi:=by unfold F5 at h;simpa using h
def kC{f:FracD}(h:Nj f=true):H2 f=false:=by
 unfold Nj at h;simp only[Auh]at h
 have l:=Hg h.1;have d:=Hg h.2
 unfold H2;rw[WR d,decide_eq_false (by omega),decide_eq_false (by omega)];rfl
def WS{i:Int}{n:Nat}(h:0<=i/\i<(n:Int)):Ly i n=true:=by unfold Ly;simpa using h
def An2:∀ i,i<16->∀ j,j<16->Ass.getD i 0=Ass.getD j 0->i=j:=by decide
def QO{α:Type}{f:α->Ah}{k:UInt8}{l:List α}(t:l.length<=16)(n:k=98\/k=108\/k=117\/k=111)(h:∀ i (hi:i<l.length),f l[i]=[k,Ass.getD i 0]):(∀ s∈l.map f,A7 s=true)/\(l.map f).Nodup:=by
 refine⟨fun s hs=>?_,?_⟩
 ·obtain⟨x,hx,rfl⟩:=Auy.1 hs
  obtain⟨i,hi,rfl⟩:=Aut hx
  have:=Ad2 i (by omega)
  rw[h i hi]
  rcases n with rfl|rfl|rfl|rfl
  ·exact this.1
  ·exact this.2.1
  ·exact this.2.2.1
  ·exact this.2.2.2
 ·unfold List.Nodup
  rw[List.pairwise_iff_getElem]
  intro i j hi d q e
  rw[Auc]at hi d
  rw[List.getElem_map,List.getElem_map,h i hi,h j d]at e
  simp only[List.cons.injEq,and_true,true_and]at e
  have:=An2 i (by omega) j (by omega) e
  omega
def Aax{α:Type}{f:α->Ah}{w:Ah}{l:List α}(d:l.length<=1)(n:A7 w=true)(h:∀ x∈l,f x=w):(∀ s∈l.map f,A7 s=true)/\(l.map f).Nodup:=by
 refine⟨fun s hs=>?_,?_⟩
 ·obtain⟨x,hx,rfl⟩:=Auy.1 hs;rw[h x hx];exact n
 ·match l,d with
  |[],_=>exact .nil
  |[a],_=>simp
def uq{c:CaseD}(g:CJ c):∀ l∈Cc c,(∀ s∈l,A7 s=true)/\l.Nodup:=by
 obtain⟨H,res,bs,ls,us,ss,ts,os,b,og,n,rfl⟩:=g
 have h:=b.h;have rl:=b.rl;have bl:=b.bl;have ll:=b.ll;have ul:=b.ul;have sl:=b.sl;have tl:=b.tl;have ol:=og.l
 intro l d
 simp only[Cc,Aum,Auu,or_false]at d
 rcases d with rfl|rfl|rfl|rfl|rfl|rfl
 ·exact QO (f:=BusD.name) (l:=bs) (by omega) (.inl rfl) fun i hi=>(b.bg i hi).name
 ·exact QO (f:=LineD.name) (l:=ls) (by omega) (.inr (.inl rfl)) fun i hi=>(b.lg i hi).g.name
 ·exact QO (f:=UnitD.name) (l:=us) (by omega) (.inr (.inr (.inl rfl))) fun i hi=>(b.ug i hi).name
 ·exact Aax (f:=StoreD.name) (l:=ss) (by omega) (w:=[115,48]) (by decide) fun x hx=>(b.sg x hx).name
 ·exact Aax (f:=TieD.name) (l:=ts) (by omega) (w:=[116,48]) (by decide) fun x hx=>(b.tg x hx).name
 ·exact QO (f:=OutD.name) (l:=os) (by omega) (.inr (.inr (.inr rfl))) fun i hi=>(og.g i hi).name
def ur{c:CaseD}(g:CJ c):Qr c=true:=by
 obtain⟨H,res,bs,ls,us,ss,ts,os,b,og,f,rfl⟩:=g
 have h:=b.h;have rl:=b.rl;have bl:=b.bl;have ll:=b.ll;have ul:=b.ul;have sl:=b.sl;have tl:=b.tl;have ol:=og.l
 unfold Qr
 simp only[Auh,Auv,SQ,Sl.l]
 refine⟨fun l d=>?_,fun u n=>?_,fun s hs=>WS (b.sg s hs).bus,fun t q=>WS (b.tg t q).bus,fun o f=>?_⟩
 ·obtain⟨i,hi,rfl⟩:=Aut d
  exact⟨WS (b.lg i hi).fr,WS (b.lg i hi).tx⟩
 ·obtain⟨i,hi,rfl⟩:=Aut n
  have:=Hg (b.ug i hi).state
  exact⟨WS (b.ug i hi).bus,WS (by omega)⟩
 ·obtain⟨i,hi,rfl⟩:=Aut f
  exact⟨fun l d=>WS ((og.g i hi).lr l d),fun m v=>WS ((og.g i hi).mr m v)⟩
def kD{c:CaseD}(g:CJ c):(∀ ws∈D5 c,ws.length<=60/\∀ x∈ws,x.length<=61)/\(D5 c).length<=100:=by
 have hI:=(YH (M:=20000000000000) (by decide) g).1
 have nms:=uq g
 have kn:=ur g
 obtain⟨H,res,bs,ls,us,ss,ts,os,b,og,C,rfl⟩:=g
 have h:=b.h;have rl:=b.rl;have bl:=b.bl;have ll:=b.ll;have ul:=b.ul;have sl:=b.sl;have tl:=b.tl;have ol:=og.l
 have tx61:∀ z,FA z->(tx z).length<=61:=fun z u=>Av2 (WK z u) (by decide)
 refine⟨fun ws d=>⟨?_,(pe hI tx61 (fun f v y=>?_) (fun w d=>?_) (fun l A s hs=>?_) kn ws d).2⟩,?_⟩
 ·unfold D5 at d
  simp only[Aum,Aul,Auy,SQ,Sl.l]at d
  rcases d with rfl|⟨x,hx,rfl⟩|⟨x,hx,rfl⟩|⟨x,hx,rfl⟩|⟨x,hx,rfl⟩|⟨x,hx,rfl⟩|⟨x,hx,rfl⟩
  ·show([Be,tx (H:Int),De]++res.map tx).length<=60
   rw[Aua,Auc];show 3+res.length<=60;omega
  ·obtain⟨i,hi,rfl⟩:=Aut hx
   have:=(b.bg i hi).dl
   simp only[GZ,Aua,Auc,Aub,Aud];omega
  ·obtain⟨i,hi,rfl⟩:=Aut hx
   have:=(b.lg i hi).g.aw
   simp only[Hv,Aua,Auc,Aub,Aud];omega
  ·obtain⟨i,hi,rfl⟩:=Aut hx
   have n:=(b.ug i hi).sl;have q:=(b.ug i hi).aw
   have e:(us[i].segs.l.flatMap UA).length=us[i].segs.l.length*2:=by
    induction us[i].segs.l with
    |nil=>rfl
    |cons a r t=>rw[Au1,Aua,t,Aub];show 2+_=_;omega
   have st:(Xi us[i].state).length<=1:=by unfold Xi;split<;>(try split)<;>(try split)<;>decide
   simp only[Lx,Aua,Auc,Aub,Aud,e];omega
  ·simp only[Hp,Aub,Aud];omega
  ·have g:=b.tg x hx
   have n:=g.il;have q:=g.el;have D:=g.pl
   simp only[Xj,Aua,Auc,Aub,Aud];omega
  ·obtain⟨i,hi,rfl⟩:=Aut hx
   have n:=(og.g i hi).ll;have q:=(og.g i hi).ml
   have e:∀ U,(os[i].moves.l.flatMap (Sx U)).length=os[i].moves.l.length*3:=fun U=>by
    induction os[i].moves.l with
    |nil=>rfl
    |cons a r t=>rw[Au1,Aua,t,Aub];show 3+_=_;omega
   have st:(cond os[i].corr [A1] []).length<=1:=by cases os[i].corr<;>decide
   simp only[Kd,Aua,Auc,Aub,Aud,e];omega
 ·have n:=WK _ v;have q:=WK _ y
  unfold Iz;rw[Aua,Aub];omega
 ·unfold Ap4 at d
  simp only[Auh,decide_eq_true_eq]at d
  omega
 ·have:=(nms l A).1 s hs
  unfold A7 at this
  simp only[Auh,decide_eq_true_eq]at this
  omega
 ·simp only[D5,Aua,Auc,Aub,SQ,Sl.l];omega
def Afm{c:CaseD}(g:CJ c):Acc c:=by
 have hI:=(YH (M:=20000000000000) (by decide) g).1
 have nms:=uq g
 have kn:=ur g
 have f:=kD g
 obtain⟨H,res,bs,ls,us,ss,ts,os,b,og,F,rfl⟩:=g
 have h:=b.h;have rl:=b.rl;have bl:=b.bl;have ll:=b.ll;have ul:=b.ul;have sl:=b.sl;have tl:=b.tl;have ol:=og.l
 have hH:∀{l:Sl Int},l.l.length=H->OI (SQ false H res bs ls us ss ts os) l=true:=fun e=>by
  unfold OI;rw[e];exact decide_eq_true rfl
 refine⟨hI,?_,?_,?_,nms,kn,?_,?_,?_⟩
 ·show(decide (bs.length<=32)&&(decide (ls.length<=64)&&(decide (us.length<=16)&&(decide (ss.length<=8)&&(decide (ts.length<=8)&&decide (os.length<=64))))))=true
  simp only[Auh,decide_eq_true_eq];omega
 ·show(1:Int)<=(H:Int)/\(H:Int)<=24;omega
 ·unfold HT
  simp only[Auh,Auv]
  refine⟨hH rl,fun x hx=>?_,fun x hx=>?_⟩
  ·simp only[SQ,Sl.l]at hx
   obtain⟨i,hi,rfl⟩:=Aut hx
   exact hH (b.bg i hi).dl
  ·simp only[SQ,Sl.l]at hx
   exact⟨hH (b.tg x hx).il,hH (b.tg x hx).el,hH (b.tg x hx).pl⟩
 ·unfold Jj
  rw[Auv]
  intro x hx
  simp only[SQ,Sl.l]at hx
  obtain⟨i,hi,rfl⟩:=Aut hx
  have:=(og.g i hi).mc
  rw[Axv]at this ⊢
  rcases this with q|q
  ·right;rw[List.isEmpty_iff,<-Awl];simpa using q
  ·left;exact q
 ·unfold Rt
  simp only[Av0]
  refine⟨WR (by simp only[SQ];omega),Hn fun z d=>by have:=b.rr z d;omega,AS fun x hx=>?_,AS fun x hx=>?_,AS fun x hx=>?_,AS fun x hx=>?_,AS fun x hx=>?_,AS fun x hx=>?_⟩
  all_goals simp only[SQ,Sl.l]at hx
  ·obtain⟨i,hi,rfl⟩:=Aut hx
   have g:=b.bg i hi
   have:=g.shed
   unfold cY
   rw[Hn fun z d=>by have:=g.dr z d;omega,WR (by omega)];rfl
  ·obtain⟨i,hi,rfl⟩:=Aut hx
   have g:=(b.lg i hi).g
   have n:=g.re;have t:=g.smin;have u:=g.smax;have v:=Hg g.lim;have y:=Hg g.em
   simp only[Auh]at n t u
   unfold HS
   rw[kC n.1,kC t.1,kC u.1,Hn (l:=[_,_]) fun z d=>by
    simp only[Aum,Auu,or_false]at d
    rcases d with rfl | rfl<;>omega,Hn fun z d=>by have:=g.awr z d;omega];rfl
  ·obtain⟨i,hi,rfl⟩:=Aut hx
   have g:=b.ug i hi
   have so:=Auv.1 g.sok
   have n:=Hg g.min;have t:=Hg g.max;have u:=Hg g.startRamp;have v:=Hg g.stopRamp
   have G:=Hg g.noLoad;have I:=Hg g.rampUp;have S:=Hg g.rampDown;have T:=Hg g.upTime;have U:=Hg g.downTime;have V:=Hg g.startTime;have X:=Hg g.hotCost;have Y:=Hg g.coldCost;have p9:=Hg g.hotHours;have pa:=Hg g.reserve;have pb:=Hg g.reservePrice;have pc:=Hg g.hours
   have y:-1048576<=us[i].output/\us[i].output<=1048576:=by
    have:=g.output
    cases hs:us[i].state==2<;>rw[hs]at this<;>have:=Hg this<;>omega
   unfold Ys
   rw[Hn (l:=[_,_]) fun z d=>by
    simp only[Aum,Auu,or_false]at d
    rcases d with rfl|rfl<;>omega,AS (l:=us[i].segs.l) (p:=cZ) fun s hs=>by
     have:=so s hs
     unfold ff at this
     simp only[Auh]at this
     have A:=Hg this.1;have C:=Hg this.2
     unfold cZ
     exact Hn fun z d=>by
      simp only[Aum,Auu,or_false]at d
      rcases d with rfl|rfl<;>omega,Hn (l:=[_,_,_,_,_,_,_,_,_,_,_,_,_]) fun z d=>by
    simp only[Aum,Auu,or_false]at d
    rcases d with rfl|rfl|rfl|rfl|rfl|rfl|rfl|rfl|rfl|rfl|rfl|rfl|rfl<;>omega,Hn fun z d=>by have:=g.awr z d;omega,Hn (l:=[_,_]) fun z d=>by
    simp only[Aum,Auu,or_false]at d
    rcases d with rfl | rfl<;>omega];rfl
  ·have g:=b.sg x hx
   have n:=g.cap;have t:=g.ini;have u:=g.fin;have v:=g.ch;have y:=g.dis;have q6:=g.eff
   unfold Sy H2
   rw[Hn fun z d=>by
    simp only[Aum,Auu,or_false]at d
    rcases d with rfl | rfl | rfl | rfl | rfl<;>omega,WR (by omega),decide_eq_false (by omega),decide_eq_false (by omega)];rfl
  ·have g:=b.tg x hx
   unfold E_
   rw[Hn fun z d=>by have:=g.ir z d;omega,Hn fun z d=>by have:=g.er z d;omega,Hn fun z d=>by have:=g.pr z d;omega];rfl
  ·obtain⟨i,hi,rfl⟩:=Aut hx
   have mi:=Auv.1 (og.g i hi).mi
   unfold Qq
   refine AS fun m D=>?_
   have:=mi m D
   unfold zK at this
   simp only[Auh]at this
   have A:=Hg this.1;have C:=Hg this.2
   unfold fO
   exact Hn fun z d=>by
    simp only[Aum,Auu,or_false]at d
    rcases d with rfl|rfl<;>omega
 ·refine Av2 (An1 f.1) (by have:=f.2;omega)
end Gx.Ct
namespace Gx.Ct
open Go Go.Proofs Gx.Cf
section
variable{R:Type}{N:Nat}{H:Int}{res:List Int}{bs:List BusD}{ls:List LineD}{us:List UnitD}{ss:List StoreD}{ts:List TieD}{os:List OutD}
def Al2{l:List Int}{c:CaseD}{K:Lu->O R}(hN:20000000000000<N)(g:CJ c)(d:∀ K:LA->O R,XX N (A0 l) l.length false false K=K c.av):PM N (A0 l) l.length false false K=K (Wq c):=by
 have a:=Afm g
 have e:=Apq a
 rw[UW];unfold UV
 rw[d,xQ (Aqu (by omega)) WK (by omega) (YH (M:=1000000000) (by decide) g).1 (YH (M:=1000000000) (by decide) g).2]
 unfold Ajh;rw[if_pos e]
end
end Gx.Ct
namespace Gx.Ct
open Go Go.Proofs Gx.Cf
section
variable{R:Type}{N:Nat}
variable{k0:List UInt8->Int->Int->Int->O R}{r0:Bool->O R}{a:LA}{b:Nat}{h c g e:Bool}{seps:List UInt8}{j:Nat}{m:Int}{L:LA}
def nc{c:CaseD}(gc:CJ c):(∀ l∈D5 c++[[]],l.length<=100/\∀ x∈l,x.length<=100)/\(D5 c++[[]]).length<=1000:=by
 obtain⟨d,n⟩:=kD gc
 refine⟨fun l f=>?_,by rw[Aua];simp;omega⟩
 rcases Aul.1 f with q|q
 ·exact⟨by have:=(d l q).1;omega,fun x hx=>by have:=(d l q).2 x hx;omega⟩
 ·rw[Ava.1 q];exact⟨by simp,fun x hx=>by cases hx⟩
end
end Gx.Ct
namespace Gx.Ct
open Go Go.Proofs Gx.Cf
section
variable{R:Type}{N:Nat}
def CL(n:Nat):Ah:=Al1.getD (n%30) []
def Afn(n:Nat):CL n∈Al1:=by
 have h:n%30<Al1.length:=Aw0 _ (by decide)
 unfold CL
 rw[Auo,Aug h];exact Aur _
def xg(n:Nat):(CL n).length<=10:=by
 have:∀ w∈Al1,w.length<=10:=by decide
 exact this _ (Afn n)
def Apu{wd:Nat}(d:wd<256){F:Ah->O R}:cond (Ai (Int.tmod (wrap .i64 (wd:Int)) 30) 30) (Gx.Mj (drop (0+((Int.tmod (wrap .i64 (wd:Int)) 30).toNat*1)) (A9 Al1)) F) none=F (CL wd):=by
 rw[Gx.i64 (by omega),show Int.tmod (wd:Int) 30=((wd%30:Nat):Int)from rfl]
 have h:wd%30<Al1.length:=Aw0 _ (by decide)
 rw[show Ai ((wd%30:Nat):Int) 30=true from Ab (Aw0 _ (by decide)),ct,Aux,Auf,Auz,Ke h]
 unfold CL
 rw[Auo,Aug h];rfl
def eH(w:Ah)(l:List Ah):Bk (w::l)=(w++[32])++Bk l:=by unfold Bk;rw[Au1]
variable{k0:List UInt8->Int->Int->O R}{r0:Bool->O R}{a:Nat}{g:Int}{b:LA}{wd:Nat}
def Aay{l:List Ah}{k t:Nat}(f:wd<256)(v:l.length<=100)(u:∀ x∈l,x.length<=100)(y:t<=1000):∀(n s fuel:Nat)(q:Lu),s+n=l.length->n<fuel->q.length+200*n<=100000000000000 ->
  Ce N k0 r0 (wd:Int) a (k:Int) g (A9 l) l.length b fuel q (t:Int) (t:Int) (l.length:Int) (s:Int)=k0 (q++(Bk (l.drop s)++((if t=k then CL wd else [])++[10]))) g ((t+1:Nat):Int)
| 0,s,fuel+1,q,hs,_,hq=>by
  have z:=xg wd
  rw[Ce];unfold Fi
  rw[Jr (by omega),cf,Av8 (by omega)]
  by_cases h:t=k
  ·subst h
   rw[beq_self_eq_true,ct,RW];unfold QF
   show cond (Ai (Int.tmod (wrap .i64 (wd:Int)) 30) 30) (Gx.Mj (drop (0+((Int.tmod (wrap .i64 (wd:Int)) 30).toNat*1)) (A9 Al1)) _) none=_
   rw[Apu f,show ble (q.length+(CL wd).length) 140737488355328=true by simp;omega,ct,show ble ((q++CL wd).length+1) 140737488355328=true by simp;omega,ct,DJ (by omega),if_pos rfl,Aun];rfl
  ·rw[show((t:Int)==(k:Int))=false from beq_false_of_ne (by omega),cf,show ble (q.length+1) 140737488355328=true by simp;omega,ct,DJ (by omega),if_neg h];rfl
|n+1,s,fuel+1,q,hs,A,hq=>by
  have d:s<l.length:=by omega
  have hx:=u _ (Aur d)
  rw[Ce];unfold Fi
  rw[Ig d,ct,Ab d,ct,Auf,Auz,Ke d]
  rw[show ble (l[s].length+1) 140737488355328=true by simp;omega,ct,show ble (q.length+List.length (l[s]++([32]:Lu))) 140737488355328=true by simp;omega,ct,DJ (by omega)]
  refine(Aay f v u y n (s+1) fuel (q++(l[s]++[32])) (by omega) (by omega) (by rw[Aua,Aua];simp;omega)).trans ?_
  rw[Au6 d,eH];simp
def Aaz{k2:Lu->Int->O R}{c:Int}{l:List Ah}{t:Nat}(u:l.length<=100)(f:∀ x∈l,x.length<=100)(v:t<=1000):∀(n s fuel:Nat)(q:Lu),s+n=l.length->n<fuel->q.length+200*n<=100000000000000 ->
  C1 N k2 r0 a c (A9 l) l.length b fuel q (t:Int) (l.length:Int) (s:Int)=k2 (q++(Bk (l.drop s)++[10])) ((t+1:Nat):Int)
|0,s,fuel+1,q,hs,_,hq=>by
  rw[C1];unfold Fj
  rw[Jr (by omega),cf,Av8 (by omega)]
  rw[show ble (q.length+1) 140737488355328=true by simp;omega,ct,DJ (by omega)];rfl
|n+1,s,fuel+1,q,hs,y,hq=>by
  have d:s<l.length:=by omega
  have hx:=f _ (Aur d)
  rw[C1];unfold Fj
  rw[Ig d,ct,Ab d,ct,Auf,Auz,Ke d]
  rw[show ble (l[s].length+1) 140737488355328=true by simp;omega,ct,show ble (q.length+List.length (l[s]++([32]:Lu))) 140737488355328=true by simp;omega,ct,DJ (by omega)]
  refine(Aaz u f v n (s+1) fuel (q++(l[s]++[32])) (by omega) (by omega) (by rw[Aua,Aua];simp;omega)).trans ?_
  rw[Au6 d,eH];simp
end
end Gx.Ct
namespace Gx.Ct
open Go Go.Proofs Gx.Cf
section
variable{R:Type}{N:Nat}
def nf(w:Ah)(k:Nat):Nat->List (List Ah)->Lu
|_,[]=>[]
|t,l::r=>(Bk l++((if t=k then w else [])++[10]))++nf w k (t+1) r
def Al3(w:Ah)(k:Nat):∀(L:List (List Ah))(t:Nat),k<t->nf w k t L=txt (L.map Bk) []
|[],_,_=>rfl
|l::r,t,h=>by rw[nf,if_neg (by omega),Al3 w k r (t+1) (by omega),Auq,txt];simp
def Al4(w:Ah)(ws:List Ah)(post:List (List Ah)):∀(pre:List (List Ah))(t:Nat),nf w (t+pre.length) t (pre++ws::post)=txt (pre.map Bk++(Bk ws++w)::post.map Bk) []
|[],t=>by
  rw[Au3,nf,if_pos (by simp),Al3 w _ post (t+1) (by simp)]
  show _=txt ((Bk ws++w)::post.map Bk) []
  rw[txt];simp
|l::pre,t=>by
  have d:=Al4 w ws post pre (t+1)
  rw[show t+1+pre.length=t+(l::pre).length by rw[Aub];omega]at d
  rw[Aup,nf,if_neg (by rw[Aub];omega),d,Auq,Aup,txt];simp
def YP:∀ l:List Ah,(∀ x∈l,x.length<=100)->(Bk l).length<=101*l.length
|[],_=>by simp[Bk]
|w::l,h=>by
  have:=YP l fun x hx=>h x (by simp[hx])
  have:=h w (by simp)
  rw[eH];simp only[Aua,Aub,Aud];omega
variable{a:Nat}{b:LA}{wd k:Nat}
def Al5{lines:List (List Ah)}{t:Nat}(d:t<lines.length){F:LA->Nat->O R}:Gx.By 1 (drop (0+(t:Int).toNat*1) (lines.map lJ)) F=F (A9 lines[t]) lines[t].length:=by rw[Aux,Auf,Auz,<-List.map_drop,Au6 d];rfl
def Afo{K:Bool->O R}{lines:List (List Ah)}(hN:1000000000<N)(f:wd<256)(s:∀ l∈lines,l.length<=100/\∀ x∈l,x.length<=100)(hn:lines.length<=1000)
  (fin:∀(fuel:Nat)(u:Lu),u=nf (CL wd) k 0 lines->Bl N K (wd:Int) lines.length (k:Int) (lines.map lJ) (fuel+1) u (lines.length:Int) (lines.length:Int)=K true) :
  ∀(n t fuel:Nat)(u:Lu),t+n=lines.length->n<fuel->u.length<=30000*t->u++nf (CL wd) k t (lines.drop t)=nf (CL wd) k 0 lines ->
  Bl N K (wd:Int) lines.length (k:Int) (lines.map lJ) fuel u (lines.length:Int) (t:Int)=K true
|0,t,fuel+1,u,y,_,_,q=>by
  obtain rfl:t=lines.length:=by omega
  rw[List.drop_length,nf,Auk]at q
  exact fin fuel u q
| n+1,t,fuel+1,u,y,D,z,q=>by
  have d:t<lines.length:=by omega
  obtain⟨A,v⟩:=s _ (Aur d)
  have C:=xg wd
  have hs:=YP _ v
  rw[Bl];unfold Fl
  rw[Ig d,ct,Ab d,ct,Al5 d]
  refine(Aay (l:=lines[t]) f A v (by omega) lines[t].length 0 N u (by omega) (by omega) (by omega)).trans ?_
  rw[Au0]
  refine Afo hN f s hn fin n (t+1) fuel _ (by omega) (by omega) ?_ ?_
  ·have:(if t=k then CL wd else []).length<=10:=by split<;>simp[C]
   rw[Aua,Aua,Aua,Avc];omega
  ·rw[<-q,Au6 d,nf,Aun]
def Afp{K:Bool->O R}{lines:List (List Ah)}(hN:1000000000<N)(q:∀ l∈lines,l.length<=100/\∀ x∈l,x.length<=100)(hn:lines.length<=1000)(v:k<lines.length)
  (fin:∀(fuel:Nat),Bv N K lines.length ((k+1:Nat):Int) (lines.map lJ) (fuel+1) (txt ((lines.take k).map Bk) []) (k:Int)=K true) :
  ∀(n t fuel:Nat)(u:Lu),t+n=k->n<fuel->u.length<=30000*t->u=txt ((lines.take t).map Bk) [] ->
  Bv N K lines.length ((k+1:Nat):Int) (lines.map lJ) fuel u (t:Int)=K true
|0,t,fuel+1,u,y,_,_,f=>by
  obtain rfl:t=k:=by omega
  rw[f];exact fin fuel
| n+1,t,fuel+1,u,y,C,z,f=>by
  have d:t<lines.length:=by omega
  obtain⟨A,s⟩:=q _ (Aur d)
  have hs:=YP _ s
  rw[Bv];unfold Fk
  rw[DJ (by omega),show decide (((t+1:Nat):Int)<((k+1:Nat):Int))=true from decide_eq_true (by omega),show((true:Bool)==true)=true from rfl,ct,Ig d,show cond true true false=true from rfl,ct]
  unfold Fx Ia
  rw[Ab d,ct,Al5 d]
  refine(Aaz (l:=lines[t]) A s (by omega) lines[t].length 0 N u (by omega) (by omega) (by omega)).trans ?_
  rw[Au0]
  refine Afp hN q hn v fin n (t+1) fuel _ (by omega) (by omega) ?_ ?_
  ·rw[Aua,Aua,Avc];omega
  ·rw[f,Au4 d,Au9,YM]
   show _=_++txt [Bk lines[t]] []
   rw[txt,txt]
def ut{M:Nat}:∀ L:List Lu,(∀ l∈L,l.length<=M)->(txt L []).length<=(M+1)*L.length
|[],_=>by simp[txt]
|l::L,h=>by
  have d:=ut L fun x hx=>h x (by simp[hx])
  have f:=h l (by simp)
  rw[txt,Aua,Aub,Aub,Nat.mul_succ];omega
def rk{l:List Int}{line:Int}{K:Bool->O R}(S:fit 2000 N)(hN:20000000000000<N)(hl:l.length<=9223372036854775807)(T:wd<256):Hm N (A0 l) l.length false false line (wd:Int) K=K true:=by
 obtain⟨x,gx,hx⟩:=xO (R:=R) (N:=N) (l:=l) (n:=l.length) (t:=false) (o:=false) rfl (by omega) hl
 have z:=Afm gx
 have hlen:=z.l
 rw[P8];unfold G8
 rw[Al2 hN gx hx,Yv];unfold FQ
 rw[show ble (Wq x).length 1000000000=true by simp;omega,ct]
 have A:H3 (Wq x)=D5 x++[[]]:=rj (D5 x) (Ad0 z)
 rw[A]
 have small:=nc gx
 obtain⟨r,r0,r1,hr⟩:=Akg (R:=R) (N:=N) (v:=line) (n:=(((D5 x++[[]]).length:Nat):Int)) (by rw[Aua];simp;omega) (by have:=small.2;omega)
 obtain⟨k,rfl⟩:∃ k:Nat,r=(k:Int):=⟨r.toNat,by omega⟩
 show ib N line (((D5 x++[[]]).length:Nat):Int) _=_
 rw[hr]
 have U:k<(D5 x++[[]]).length:=by omega
 have gl:=kD gx
 have I:∀ ws∈D5 x,ws.length<=1000:=fun ws h=>by have:=(gl.1 ws h).1;omega
 have d:∀ l∈D5 x++[[]],(Bk l).length<=6060:=fun l h=>by
  have h1:=YP l (small.1 l h).2
  rcases Aul.1 h with q|q
  ·have:=(gl.1 l q).1;omega
  ·rw[Ava.1 q];simp[Bk]
 have hcnt:(D5 x++[[]]).length<=101:=by rw[Aua];have:=gl.2;simp;omega
 have D:D5 x++[[]]=(D5 x++[[]]).take k++(D5 x++[[]])[k]::(D5 x++[[]]).drop (k+1):=by
  rw[<-Au6 U,Axp]
 have f:((D5 x++[[]]).take k).length=k:=by rw[Avd];omega
 have s:=Al4 (CL wd) (D5 x++[[]])[k] ((D5 x++[[]]).drop (k+1)) ((D5 x++[[]]).take k) 0
 rw[Aux,f,<-D]at s
 have F:=xg wd
 have hT:(nf (CL wd) k 0 (D5 x++[[]])).length<=1048576:=by
  rw[s]
  have:=ut (M:=6070) (((D5 x++[[]]).take k).map Bk++(Bk (D5 x++[[]])[k]++CL wd)::((D5 x++[[]]).drop (k+1)).map Bk) (fun l h=>by
   rcases Aul.1 h with q|q
   ·obtain⟨y,V,rfl⟩:=Auy.1 q
    have:=d y (Axh V);omega
   ·rcases Aum.1 q with rfl|q
    ·rw[Aua];have:=d _ (Aur U);omega
    ·obtain⟨y,V,rfl⟩:=Auy.1 q
     have:=d y (Ay0 V);omega)
  have X:(((D5 x++[[]]).take k).map Bk++(Bk (D5 x++[[]])[k]++CL wd)::((D5 x++[[]]).drop (k+1)).map Bk).length=(D5 x++[[]]).length:=by
   rw[Aua,Aub,Auc,Auc,f,List.length_drop];omega
  rw[X]at this
  omega
 refine Afo (lines:=D5 x++[[]]) (by omega) T small.1 small.2 (fun fuel u hu=>?_) (D5 x++[[]]).length 0 N [] (by omega) (by have:=small.2;omega) (by simp) (by rw[Au0];rfl)
 rw[Bl];unfold Fl
 rw[Jr (Aui _),cf]
 have main:∀ KK:LA->Int->Int->O R,(∀ x n e,x.length=8->(e=0/\n=0\/e≠0/\n=((k+1:Nat):Int))->KK x n e=K true)->He N u KK=K true:=fun KK h=>by
  obtain⟨y,n,e,C,F,G⟩:=Ad1 (K:=KK) S (by omega) z I D (Anz S _ (Afn wd)) (by rw[<-s];exact hT)
  rw[f]at G
  rw[hu,s,F];exact h y n e C G
 refine main _ fun y n e C G=>?_
 show cond ((beq 0 0)&&((beq y.length 8)&&(beq 8 8))) _ _=_
 rw[C,show((beq 0 0)&&((beq 8 8)&&(beq 8 8)))=true from rfl,ct]
 rcases G with⟨rfl,rfl⟩|⟨he,rfl⟩
 ·show Uu N _=_
  rw[Oo];rfl
 ·rw[beq_false_of_ne he,cf]
  refine Afp (by omega) small.1 small.2 U (fun fuel=>?_) k 0 N [] (by omega) (by omega) (by simp) rfl
  rw[Bv];unfold Fk
  rw[DJ (by omega),show decide (((k+1:Nat):Int)<((k+1:Nat):Int))=false from decide_eq_false (by omega),show((false:Bool)==true)=false from rfl,cf]
  have main2:∀ KK:LA->Int->Int->O R,(∀ x n e,x.length=8->(e=0/\n=0\/k=0/\e=2/\n=1)->KK x n e=K true)->He N (txt (((D5 x++[[]]).take k).map Bk) []) KK=K true:=fun KK h=>by
   by_cases h0:k=0
   ·subst h0
    obtain⟨y,C,F⟩:=Aaw (N:=N) (K:=KK) (by omega)
    rw[Awp]
    show He N [] KK=_
    rw[F];exact h y 1 2 C (Or.inr ⟨rfl,rfl,rfl⟩)
   ·have Y:(txt (((D5 x++[[]]).take k).map Bk) []).length<=1048576:=by
     refine Av2 ?_ hT
     rw[s,YM,Aua];omega
    obtain⟨y,C,F⟩:=Aih (K:=KK) S (by omega) z I D (fun q=>by rw[q]at f;exact h0 f.symm) Y
    rw[F];exact h y 0 0 C (Or.inl ⟨rfl,rfl⟩)
  refine main2 _ fun y n e C G=>?_
  show cond ((beq 0 0)&&((beq y.length 8)&&(beq 8 8))) _ _=_
  rw[C,show((beq 0 0)&&((beq 8 8)&&(beq 8 8)))=true from rfl,ct]
  rw[Oo];unfold OY
  rw[show decide (((k+1:Nat):Int)>=1)=true from decide_eq_true (by omega)]
  rcases G with⟨rfl,rfl⟩|⟨rfl,rfl,rfl⟩
  ·rfl
  ·rfl
end
end Gx.Ct
namespace Gx
open Go
def am{a b:Bool}(d:a=true)(f:b=true):(a&&b)=true:=by rw[d,f];rfl
def Apv{P:Program}(h2:laidOutB P=true)(h3:mapsRowed P=true)(h7:(P.stops==[])=true)(h9:(P.stopKnobs==[])=true)(d:P.stopsHeard=true)(l:P.mayEnter=true){f:FuncId}{fn:Func}{s:ChangeSpec}{c:OpenClaim}(n:(c.inPlace==P.inPlace f)=true)(q:(c.unfollowed==P.unfollowed f)=true)(u:(c.recurses==P.recurses f)=true)(v:(c.named==P.varsNamed f)=true)
  (x:(c.lifted==P.liftsFinal)=true) (y:(P.make==some c.make)=true) (z:(c.plainKeys==P.plainKeys)=true)
  (h1:c.wf (OpenSpec.ofChange s)=true) (h4:fn.params.all (P.readableRec ·)=true) (h5:namedTie P c.named s.vars=true) (h6:(c.stops==[])=true) (h8:(c.knobs==[])=true)
  (A:(c.maps==(fn.params.toList++s.plain.varTypes P).any (P.mapsRec ·))=true) (C:(c.ifaces==(fn.params.toList++s.plain.varTypes P).any (P.ifacesRec ·))=true) (D:(c.mapsOut==P.mapsAmong fn.resultTypes.toList)=true)
  (F:(c.loops==(fn.params.toList++s.plain.varTypes P).any (P.loopsFrom ·))=true) (G:(c.wideKeys==(fn.params.toList++s.plain.varTypes P++fn.resultTypes.toList).any (P.wideKeysFrom ·))=true)
  (I:s.vars.all (P.varReadable ·)=true) (M:fn.resultTypes.all (fun t=>P.readableRec t&&decide (t<P.types.size))=true) (S:(c.ifacesOut==fn.resultTypes.toList.any (P.ifacesRec ·))=true) (T:(c.loopsOut==fn.resultTypes.toList.any (P.loopsFrom ·))=true)
  (U:c.shortTexts.isNone=true) (V:(c.kinds==(if c.domain.isEmpty then []else fn.params.toList.map fun t=>match P.underlying t with|some (.int k)=>some k|_=>none))=true) (X:(c.pinned==c.pinnedBy)=true)
  (Y:(c.veiled==(fn.params.toList++s.plain.varTypes P++fn.resultTypes.toList).any (P.veiledRec ·))=true) (h32:c.veiledFits P fn.params.toList (fn.params.toList++s.plain.varTypes P++fn.resultTypes.toList)=true):joinedFacts P f fn s c=true:=by
 unfold joinedFacts
 exact am (am (am (am (am (am (am (am (am (am (am (am (am (am (am (am (am (am (am (am (am (am (am (am (am (am (am (am (am (am (am h1 h2) h3) h4) h5) h6) h7) h8) h9) n) q) u) v) A) C) D) F) G) I) M) S) T) z) U) d) l) x) y) V) X) Y) h32
end Gx
namespace Go.Proofs.YtpeocjkboabibaaGreatDoor
open Go.ChangeShapes Go.WideShapes Go.ChangeAt Go.RowKit
def As3:ownKnob Tryz.prog.godebug=none:=by kernel_rfl
def Aa0:laidOutB Tryz.prog=true:=by kernel_rfl
def As4 : Tryz.prog.globalNamed "internal/strconv.uint64pow10" = some 1 := by kernel_rfl
def At5:(Tryz.prog.globals[1]?).map (·.type)=some 254:=by kernel_rfl
def As5:Tryz.prog.underlying 254=some (.array 20 98):=by kernel_rfl
def As6:Tryz.prog.underlying 98=some (.int .u64):=by kernel_rfl
def As7:Tryz.prog.cellsOf 254=20:=by kernel_rfl
def As8:Tryz.prog.cellsOf 98=1:=by kernel_rfl
def Aqz:List Int:=(List.range 20).map fun i=>((10 ^ i:Nat):Int)
def Aii{H:Type}:(Rows.laid_internal_strconv_uint64pow10:DataW H)=Lib.tabData .u64 Aqz:=rfl
def An3{W:World}(hL:laidMetH Tryz.prog Rows.casetextFormatsRow.laid W)(f:W.ShapedOpen Tryz.prog):Gx.GlobOk (fun _ k=>k<W.heap.size) W:=by
 have z : Lib.TabIs Tryz.prog W "internal/strconv.uint64pow10" .u64 Aqz := by
  have l:laidMet Tryz.prog Rows.casetextFormatsRow.laid W:=hL
  obtain⟨ps,⟨T,t0,cs0,U,V,X,A,C,D,F,⟨Y,t1,cs1,f1,p1,q1,G,I,M,S,⟨g2,t2,cs2,f2,p2,q2,n,q,s,d,_,_⟩,_⟩,_⟩,_⟩:=l
  obtain rfl:=Option.some.inj (As4.symm.trans n)
  obtain rfl:=Option.some.inj (At5.symm.trans q)
  unfold Lib.TabIs
  rw[Aii]at d
  rw[s,<-Lib.cells_of_tab As5 As6 As8 As7 d]
 obtain⟨ty,fr,u⟩:=Gx.Aja z As4
 obtain⟨m,v⟩:=cell_of_shapedOpen_int (P:=Tryz.prog) (g:=0) (t:=3) (zero:=#[.int .i64 0]) f (of_decide_eq_true (by kernel_rfl)) (by kernel_rfl) rfl (by kernel_rfl) (by kernel_rfl) Tryz.underlying3
 refine⟨fun p x=>?_,fun g y=>?_⟩
 ·simp only[Gx.An5,List.mem_singleton]at x
  subst x
  refine⟨?_,ty,fr,?_⟩
  ·show 1<W.heap.size
   rcases Nat.lt_or_ge 1 W.heap.size with h|h
   ·exact h
   ·rw[Array.getElem?_eq_none h]at u;cases u
  ·rw[u];rfl
 ·simp only[Gx.Aa2,List.mem_singleton]at y
  subst y
  exact⟨Gx.Ajb v,m,v⟩
noncomputable def Afq(os:Os):World:=World.laidAll Tryz.prog os Rows.casetextFormatsRow.laid
def Al6(os:Os):(Afq os).os=os:=World.laidAll_os _ _ _
def Aij(os:Os)(args:Array Value):laidMetH Tryz.prog Rows.casetextFormatsRow.laid ((Afq os).forCall (fun _ _=>0) ⟨#[],args,[]⟩).memory:=laidMet_laidAll args (by kernel_rfl) (by kernel_rfl)
def Aq0:mapsRowed Tryz.prog=true:=by kernel_rfl
def Apw:(Tryz.prog.stops==[])=true:=by kernel_rfl
def Apx:(Tryz.prog.stopKnobs==[])=true:=by kernel_rfl
def Apy:Tryz.prog.stopsHeard=true:=by kernel_rfl
def Apz:Tryz.prog.mayEnter=true:=by kernel_rfl
def Ap0:(Rows.casetextFormatsRow.lifted==Tryz.prog.liftsFinal)=true:=by kernel_rfl
def Aq1:(Tryz.prog.make==some Rows.casetextFormatsRow.make)=true:=by kernel_rfl
def Aq2:(Rows.casetextFormatsRow.plainKeys==Tryz.prog.plainKeys)=true:=by kernel_rfl
end Go.Proofs.YtpeocjkboabibaaGreatDoor
namespace Gx
open Go Go.Proofs Go.RowKit Go.ChangeShapes
open Cf
section
variable{W:World}{H:Type}{enc:TypeId×Value->H}{β:C3}{h:Az}
def rn{q:Int->Prop}:∀ m:List {n:Int // q n},m.flatMap (fun n=>[AV.int .i64 n.1])=A0 (m.map (·.1))
|[]=>rfl
|a::r=>by rw[Au1,rn r];rfl
def Aik{a:Option Addr}{len cap:Nat}{d:DataW H}{p:List MemPlace}(f:DataW.Trod enc Tryz.prog W 0 (fun _=>true) true 22 (.slice a len cap) d p):
  ∃ l:List Int,l.length<=maxLen/\Rep (fun _ k=>k<W.heap.size) β h W (.imm (A0 l) l.length 1 false false) (.slice a len cap):=by
 obtain⟨l,n,e⟩:=Amh (β:=β) (h:=h) Tryz.underlying22 (by kernel_rfl) (Af6 Tryz.underlying3 (by kernel_rfl)) f
 rw[rn]at e
 exact⟨l.map (·.1),by rw[Auc];exact n,by rw[Auc];exact e⟩
def Aq3{n:Int}(h:(Lit.int .u8 n).wf=true):0<=n/\n<256:=by simp only[Lit.wf,Auh,decide_eq_true_eq,show IntKind.u8.min=0 from rfl,show IntKind.u8.max=255 from rfl]at h;omega
end
end Gx
