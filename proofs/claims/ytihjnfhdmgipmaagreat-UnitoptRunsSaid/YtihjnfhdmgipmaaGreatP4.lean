/- A part of the proof; each theorem says what it holds. -/
import Derived.Laws.BitsLemmas
import Derived.Test.YtihjnfhdmgipmaaGreatP3
set_option linter.unusedVariables false
set_option linter.defProp false
set_option linter.unusedSimpArgs false
open Nat (ble beq)
open List (take drop replicate)
open Go.IntKind (wrap)
namespace Gx
open Go Go.Proofs
def Amv:Rat->List SegD->Bool×Rat
|_,[]=>(false,0)
|t,s::r=>cond (decide (0<=t)&&decide (t<(s.width:Rat))) (true,(s.price:Rat)) (Amv (t - (s.width:Rat)) r)
def Ajo:Rat->List SegD->Bool×Rat
|_,[]=>(false,0)
|t,s::r=>cond (decide (0<t)&&decide (t<=(s.width:Rat))) (true,(s.price:Rat)) (Ajo (t - (s.width:Rat)) r)
def As7(l:List SegD):Prop:=∀ s∈l,(0:Rat)<(s.width:Rat)
def Amw:∀{l:List SegD}{t:Rat},As7 l->t<=0->(Ajo t l).1=false
|[],_,_,_=>rfl
|s::r,t,h,k=>by
  rw[Ajo,decide_eq_false (by grind),A2u,cond_false]
  exact Amw (fun s hs=>h s (by simp[hs])) (by have:=h s (by simp);grind)
def Aox{p q:Rat}:decide (Zs p q<0)=decide (p<q):=by
 rw[decide_eq_decide];unfold Zs
 by_cases h:p<q
 ·simp[h]
 ·rw[if_neg h];simp only[h,iff_false];split<;>omega
def ri(a b:Int):((a+b:Int):Rat)=(a:Rat)+(b:Rat):=Aza a b
def Ag1{p:Int}{l:List SegD}(h:Ed p l=true):As7 l:=fun s hs=>by
 have:=n9 h s hs
 have k:(0:Int)<s.width:=by omega
 exact Rat.intCast_pos.2 k
def FC{p:Int}{s:SegD}{r:List SegD}(h:Ed p (s::r)=true):(p:Rat)<=(s.price:Rat)/\Ed s.price r=true/\(0:Rat)<(s.width:Rat):=by
 have k:=Ag1 h s (by simp)
 simp only[Ed,Axr,decide_eq_true_eq]at h
 exact⟨Ayr.2 h.2.2.1,h.2.2.2,k⟩
def FD{w:Rat}{s:SegD}{r:List SegD}{t:Rat}(C:w=(s.width:Rat))(D:0<=t)(G:t<=w):Ew t (s::r)=(s.price:Rat)*t:=by
 subst C
 rw[Ew]
 by_cases k:t<=0
 ·have:t=0:=A1t k D
  subst this;simp
 ·rw[if_neg k,if_pos G,A14]
  have:Ew 0 r=0:=by cases r with
   |nil=>rfl
   |cons a b=>rw[Ew,if_pos Azr]
  rw[this,A3q]
def M'{s:SegD}{r:List SegD}{t:Rat}(D:(0:Rat)<(s.width:Rat))(C:(s.width:Rat)<=t):Ew t (s::r)=(s.price:Rat)*(s.width:Rat)+Ew (t - (s.width:Rat)) r:=by
 rw[Ew,if_neg (by grind)]
 by_cases k:t<=(s.width:Rat)
 ·have:t=(s.width:Rat):=A1t k C
  rw[if_pos k,this]
 ·rw[if_neg k]
def ve(l:List SegD):Ew 0 l=0:=by cases l with
|nil=>rfl
|cons a b=>rw[Ew,if_pos Azr]
def Ag2:∀{l:List SegD}{p:Int}{t:Rat},Ed p l=true->0<=t->t<=(Nd l:Rat)->(p:Rat)*t<=Ew t l
|[],p,t,_,k,C=>by
  have:t=0:=A1t (by simpa[Nd]using C) k
  subst this;simp[Ew]
| s::r,p,t,h,k,C=>by
  obtain⟨D,hr,G⟩:=FC h
  by_cases I:t<=(s.width:Rat)
  ·rw[FD rfl k I];exact Azx D k
  ·have L:(s.width:Rat)<=t:=by grind
   rw[M' G L]
   rw[Nd,ri]at C
   have T:=Ag2 hr (t:=t - (s.width:Rat)) (by grind) (by grind)
   have:=Azx D k
   grind
def Ap2:∀{l:List SegD}{p:Int}{t:Rat},Ed p l=true->(Amv t l).1=true->(p:Rat)<=(Amv t l).2
|[],_,_,_,h=>by cases h
| s::r,p,t,h,k=>by
  obtain⟨C,hr,D⟩:=FC h
  rw[Amv]at k ⊢
  cases hc:(decide (0<=t)&&decide (t<(s.width:Rat)))with
  |true=>rw[hc]at k;simpa using C
  |false =>
   rw[hc]at k
   have:=Ap2 hr k
   simp only[cond_false]
   grind
def Ap3:∀{l:List SegD}{p:Int}{t:Rat},Ed p l=true->(Ajo t l).1=true->(p:Rat)<=(Ajo t l).2
|[],_,_,_,h=>by cases h
| s::r,p,t,h,k=>by
  obtain⟨C,hr,D⟩:=FC h
  rw[Ajo]at k ⊢
  cases hc:(decide (0<t)&&decide (t<=(s.width:Rat)))with
  |true=>rw[hc]at k;simpa using C
  |false =>
   rw[hc]at k
   have:=Ap3 hr k
   simp only[cond_false]
   grind
def Acf:∀{l:List SegD}{p:Int}{t s:Rat},Ed p l=true->0<=t->t<s->s<=(Nd l:Rat)->(Amv t l).1=true/\(Amv t l).2*(s - t)<=Ew s l - Ew t l
|[],p,t,s,_,k,L,C=>by simp[Nd]at C;grind
| a::r,p,t,s,h,k,L,C=>by
  obtain⟨Y,hr,D⟩:=FC h
  rw[Nd,ri]at C
  rw[Amv]
  by_cases G:t<(a.width:Rat)
  ·rw[decide_eq_true k,decide_eq_true G]
   refine⟨rfl,?_⟩
   show(a.price:Rat)*(s - t)<=_
   rw[FD rfl k (A2r G)]
   by_cases T:s<=(a.width:Rat)
   ·rw[FD rfl (by grind) T];grind
   ·rw[M' D (by grind)]
    have:=Ag2 hr (t:=s - (a.width:Rat)) (by grind) (by grind)
    grind
  ·rw[decide_eq_false G,A2t,cond_false,M' D (show(a.width:Rat)<=t by grind),M' D (show(a.width:Rat)<=s by grind)]
   have I:=Acf hr (t:=t - (a.width:Rat)) (s:=s - (a.width:Rat)) (by grind) (by grind) (by grind)
   exact⟨I.1,by have:=I.2;grind⟩
def rj:∀{l:List SegD}{p:Int}{t s:Rat},Ed p l=true->0<=s->s<t->t<=(Nd l:Rat)->(Ajo t l).1=true/\(Ajo t l).2*(s - t)<=Ew s l - Ew t l
|[],p,t,s,_,C,L,D=>by simp[Nd]at D;grind
| a::r,p,t,s,h,C,L,D=>by
  obtain⟨hp,hr,I⟩:=FC h
  rw[Nd,ri]at D
  rw[Ajo]
  by_cases G:t<=(a.width:Rat)
  ·rw[decide_eq_true (show 0<t by grind),decide_eq_true G]
   refine⟨rfl,?_⟩
   show(a.price:Rat)*(s - t)<=_
   rw[FD rfl (by grind) G,FD rfl C (by grind)];grind
  ·rw[decide_eq_false G,A2t,cond_false,M' I (show(a.width:Rat)<=t by grind)]
   by_cases T:(a.width:Rat)<=s
   ·rw[M' I T]
    have k:=rj hr (t:=t - (a.width:Rat)) (s:=s - (a.width:Rat)) (by grind) (by grind) (by grind)
    exact⟨k.1,by have:=k.2;grind⟩
   ·have Y:s<=(a.width:Rat):=by grind
    rw[FD rfl C Y]
    have k:=rj hr (t:=t - (a.width:Rat)) (s:=0) Azr (by grind) (by grind)
    refine⟨k.1,?_⟩
    have h6:=Ap3 hr k.1
    have h7:=Azx h6 (show 0<=(a.width:Rat) - s by grind)
    have h8:=k.2
    rw[ve]at h8
    grind
def Ap4:∀{l:List SegD}{p:Int}{t:Rat},Ed p l=true->(Ajo t l).1=true->(Amv t l).1=true->(Ajo t l).2<=(Amv t l).2
|[],_,_,_,h,_=>by cases h
| a::r,p,t,h,k,D=>by
  obtain⟨I,hr,L⟩:=FC h
  rw[Ajo]at k ⊢
  rw[Amv]at D ⊢
  by_cases G:t<(a.width:Rat)
  ·by_cases C:0<t
   ·rw[decide_eq_true C,decide_eq_true (show t<=(a.width:Rat) by grind),decide_eq_true (show 0<=t by grind),decide_eq_true G]
    exact Azr
   ·exfalso
    rw[decide_eq_false C,A2u,cond_false,Amw (Ag1 hr) (by grind)]at k;cases k
  ·rw[decide_eq_false G,A2t,cond_false]at D ⊢
   by_cases C:t<=(a.width:Rat)
   ·rw[decide_eq_true (show 0<t by grind),decide_eq_true C]
    exact Ap2 hr D
   ·rw[decide_eq_false C,A2t,cond_false]at k ⊢
    exact Ap4 hr k D
end Gx
namespace Gx.Uo
open Go Go.Proofs
def Ajp{l:List SegD}{p:Int}(h:Ed p l=true):Conc (fun t=>-Ew t l) 0 (Nd l:Rat):=by
 have key:∀ x z s:Rat,0<=x->x<=(Nd l:Rat)->0<=z->z<=(Nd l:Rat)->0<=s->s<=1->x<z->(1 - s)*-Ew x l+s*-Ew z l<=-Ew ((1 - s)*x+s*z) l:=fun x z s C G I D T Y hxz=>by
  by_cases e0:s=0
  ·subst e0;rw[show(1 - (0:Rat))*x+0*z=x by grind];grind
  by_cases e1:s=1
  ·subst e1;rw[show(1 - (1:Rat))*x+1*z=z by grind];grind
  have s0:0<s:=by grind
  have s1:0<1 - s:=by grind
  have hm:0<z - x:=by grind
  have a1:0<s*(z - x):=Rat.mul_pos s0 hm
  have a2:0<(1 - s)*(z - x):=Rat.mul_pos s1 hm
  generalize L:(1 - s)*x+s*z=m
  have m1:x<m:=by grind
  have m2:m<z:=by grind
  obtain⟨b1,b2⟩:=Acf h (t:=m) (s:=z) (by grind) m2 D
  obtain⟨c1,c2⟩:=rj h (t:=m) (s:=x) C m1 (by grind)
  have lh:=Ap4 h c1 b1
  generalize (Amv m l).2=g at *
  generalize (Ajo m l).2=k at *
  have d1:=ml lh (show 0<=m - x by grind)
  have d2:g*(x - m)<=Ew x l - Ew m l:=by grind
  have d3:=ml d2 (show 0<=1 - s by grind)
  have d4:=ml b2 (show 0<=s by grind)
  have d5:(1 - s)*(g*(x - m))+s*(g*(z - m))=0:=by rw[<-L];grind
  grind
 intro x z s C G I D T Y
 by_cases e:x<z
 ·exact key x z s C G I D T Y e
 ·by_cases e2:z<x
  ·have:=key z x (1 - s) I D C G (by grind) (by grind) e2
   rw[show(1 - (1 - s))*z+(1 - s)*x=(1 - s)*x+s*z by grind]at this
   show(1 - s)*-Ew x l+s*-Ew z l<=-Ew ((1 - s)*x+s*z) l
   grind
  ·have:x=z:=by grind
   subst this
   show(1 - s)*-Ew x l+s*-Ew x l<=-Ew ((1 - s)*x+s*x) l
   rw[show(1 - s)*x+s*x=x by grind];grind
def Conc.shift{f:F1}{a b c:Rat}(h:Conc f a b):Conc (fun x=>f (x - c)) (a+c) (b+c):=fun x z s D G I L k C=>by
 have:=h (x - c) (z - c) s (by grind) (by grind) (by grind) (by grind) k C
 rw[show(1 - s)*(x - c)+s*(z - c)=(1 - s)*x+s*z - c by grind]at this
 exact this
def rk(mn:Int)(l:List SegD):F1:=fun x=>-Ew (x - mn) l
def Ajq:List SegD->Int->Rat->Hy->Hy
|[],_,_,L=>L
|s::r,x,v,L=>Ajq r (x+s.width) (v - s.width*s.price) (JM L (x+s.width) (v - s.width*s.price))
def Amx{f:F1}{a:Int}:∀(r:List SegD)(p x:Int)(v:Rat)(L:Hy),Ed p r=true->Upto f L a x->(∀ t:Rat,0<=t->t<=(Nd r:Rat)->f (x+t)=v - Ew t r)->Upto f (Ajq r x v L) a (x+Nd r)
|[],_,x,_,L,_,u,_=>by rw[Ajq,Nd,Int.add_zero];exact u
| s::r,p,x,v,L,h,u,C=>by
  obtain⟨_,k,D⟩:=FC h
  have I:0<s.width:=A09.1 D
  have sw:(Nd (s::r):Rat)=(s.width:Rat)+(Nd r:Rat):=by rw[Nd,Aza]
  have sr:(0:Rat)<=(Nd r:Rat):=by
   have:∀(r:List SegD)(p:Int),Ed p r=true->(0:Rat)<=(Nd r:Rat):=by
    intro r
    induction r with
    |nil=>intro _ _;exact Azr
    |cons a r T =>
     intro p h
     obtain⟨_,k,D⟩:=FC h
     have:=T _ k
     rw[Nd,Aza];grind
   exact this r _ k
  have fw:f ((x+s.width:Int):Rat)=v - s.width*s.price:=by
   rw[Aza,C _ (by grind) (by grind),FD rfl (by grind) Azr];grind
  have u2:=u.add (x:=x+s.width) (by omega) ⟨-(s.price:Rat),v+s.price*x,fun t Y G=>by
   rw[Aza]at G
   have:=C (t - x) (by grind) (by grind)
   rw[FD (w:=s.width) rfl (by grind) (by grind)]at this
   rw[show(x:Rat)+(t - x)=t by grind]at this
   rw[this];grind⟩
  rw[fw]at u2
  have:=Amx r s.price (x+s.width) (v - s.width*s.price) _ k u2 fun t Y G=>by
   have:=C (s.width+t) (by grind) (by grind)
   rw[M' D (by grind),show(s.width:Rat)+t - s.width=t by grind]at this
   rw[Aza,show(x:Rat)+s.width+t=x+(s.width+t) by grind,this];grind
  rw[Ajq,Nd,show x+(s.width+Nd r)=x+s.width+Nd r by omega]
  exact this
def vf{mn mx p:Int}{l:List SegD}(h:Ed p l=true)(hs:Nd l=mx - mn):Upto (rk mn l) (Ajq l mn 0 [(mn,0)]) mn mx/\Conc (rk mn l) mn mx:=by
 have z:rk mn l mn=0:=by unfold rk;rw[show(mn:Rat) - mn=0 by grind,ve];grind
 constructor
 ·have u0:Upto (rk mn l) [(mn,0)] mn mn:=by
   have:=Cv.one (rk mn l) mn
   rw[z]at this
   exact⟨this,rfl,rfl⟩
  have:=Amx l p mn 0 [(mn,0)] h u0 fun t _ _=>by unfold rk;rw[show(mn:Rat)+t - mn=t by grind];grind
  rwa [hs,show mn+(mx - mn)=mx by omega]at this
 ·have:=(Ajp h).shift (c:=mn)
  rw[hs,Ayi,show((mx:Rat) - mn)+mn=mx by grind,show(0:Rat)+mn=mn by grind]at this
  exact this
end Gx.Uo
namespace Gx
open Go Go.Proofs
set_option maxRecDepth 100000
section
variable{R:Type}
def Amy(q:Rat):Zs q q=0:=by
 unfold Zs
 rw[if_neg A3f,if_neg A3f]
end
end Gx
namespace Gx
open Go Go.Proofs
section
variable{R:Type}
def CO{l:List RatD}{j:Nat}(h:j<l.length):drop ((Int.toNat (j:Int))*3) (l.flatMap RatD.av)=l[j].av++(l.drop (j+1)).flatMap RatD.av:=by rw[Axm,Bh (e:=RatD.av) (sz:=3) (fun _=>rfl) _ _ h]
end
end Gx
namespace Gx.Uo
open Go Go.Proofs
section
variable{R:Type}{N:Nat}{X:O R}
def VOk(V:List RatD)(L:Hy):Prop:=V.length=L.length/\∀ i (h:i<V.length) (h':i<L.length),V[i].can L[i].2
def F3(L:Hy):List Int:=L.map (·.1)
structure PB(M:Nat)(L:Hy):Prop where
 x:∀ p∈L,-10000000<=p.1/\p.1<=10000000
 q:∀ p∈L,qm p.2<=M
 n:L.length<=30000000
def vg{n k:Nat}(h:k<=n)(hn:n<=1000000000000):wrap .i64 ((n:Int) - (k:Int))=((n - k:Nat):Int):=by rw[Ar _ (by omega)];omega
def Ap5{l:List Int}{j:Nat}(h:j<l.length){f:Int->O R}:Aq .i64 (drop (0+((Int.toNat (j:Int))*1)) (Aj l)) f=f l[j]:=by rw[Ax0];exact Et h
def Awj{V:List RatD}{j:Nat}(h:j<V.length):take 3 (drop (0+(Int.toNat (j:Int))*3) (V.flatMap RatD.av))=V[j].av:=by rw[Ax0,CO h];rfl
def As8{V:List RatD}{j:Nat}(h:j<V.length):ble 3 (drop (0+(Int.toNat (j:Int))*3) (V.flatMap RatD.av)).length=true:=by rw[Ax0,CO h];rfl
def Arf{p q:Rat}:(Zs p q==0)=decide (p=q):=by
 rw[A0o,beq_iff_eq,decide_eq_true_eq]
 unfold Zs
 constructor
 ·intro h;split at h
  ·cases h
  ·split at h
   ·cases h
   ·grind
 ·rintro rfl;simp[A3f]
def Amz{V:List RatD}{n:Nat}(h:n<=V.length):(V.flatMap RatD.av).take (n*3)=(V.take n).flatMap RatD.av:=by
 induction V generalizing n with
|nil=>simp
| cons a r k =>
  cases n with
  |zero=>simp
  |succ n =>
   rw[Aye,A1p,Aye,List.take_append,show(n+1)*3 - a.av.length=n*3 by show(n+1)*3 - 3=_;omega,k (by simpa using h),Axl (by show 3<=_;omega)]
def Xb(V:List RatD):(V.flatMap RatD.av).length=V.length*3:=by
 induction V with
|nil=>rfl
|cons a r k=>rw[Aye,Ax1,k,Ayb];show 3+_=_;omega
def VOk.snoc{V:List RatD}{L:Hy}(h:VOk V L){d:RatD}{x:Int}{v:Rat}(k:d.can v):VOk (V++[d]) (L++[(x,v)]):=by
 refine⟨by simp[h.1],fun i C D=>?_⟩
 by_cases hi:i<V.length
 ·rw[Ayj hi,Ayj (by rw[<-h.1];exact hi)];exact h.2 i hi _
 ·have:i=V.length:=by simp at C;omega
  subst this
  rw[Azy (by omega),Azy (by rw[h.1];omega)]
  simpa using k
def VOk.take{V:List RatD}{L:Hy}(h:VOk V L)(n:Nat):VOk (V.take n) (L.take n):=by
 refine⟨by rw[Ax6,Ax6,h.1],fun i k C=>?_⟩
 rw[Ax6]at k C
 rw[Azs,Azs];exact h.2 i (by omega) (by omega)
def io{K:Nat->Nat->LA->Bool->LA->O R}{x:Int}{v:Rat}{d:RatD}{g e:Bool}{L:Hy}{V:List RatD}{n:Nat}(hV:VOk V L)(k:d.can v)(hn:n<=L.length)(D:L.length<=30000000)
  (h:∀ V',VOk V' (L.take n++[(x,v)])->K (L.take n++[(x,v)]).length (L.take n++[(x,v)]).length (Aj (F3 (L.take n++[(x,v)]))) (e||(g||false)) (V'.flatMap RatD.av)=X) :
  Hn N K x (Aj (F3 L)) e (V.flatMap RatD.av) g d.av n n=X:=by
 have hV1:=hV.1
 unfold Hn
 rw[show ble (n+1) 140737488355328=true by rw[Ays];omega,show ble ((n+1)*8) 140737488355328=true by rw[Ays];omega,show ble ((n+1)*56) 140737488355328=true by rw[Ays];omega]
 show K (n+1) (n+1) ((Aj (F3 L)).take (n*1)++[.int .i64 x]) (e||(g||false)) ((V.flatMap RatD.av).take (n*3)++d.av)=X
 have:=h (V.take n++[d]) ((hV.take n).snoc k)
 have e1:(L.take n++[(x,v)]).length=n+1:=by rw[Ax1,Ax6];simp;omega
 have C:Aj (F3 (L.take n++[(x,v)]))=(Aj (F3 L)).take (n*1)++[.int .i64 x]:=by
  unfold F3 Aj;simp[A4c]
 have e3:(V.take n++[d]).flatMap RatD.av=(V.flatMap RatD.av).take (n*3)++d.av:=by
  rw[A0d,Amz (by omega)];simp
 rw[e1,C,e3]at this
 exact this
def Ap6{K:Nat->Nat->LA->Bool->LA->O R}{x:Int}{v:Rat}{d:RatD}{g e:Bool}{L:Hy}{V:List RatD}{M:Nat}(hV:VOk V L)(D:d.can v)(hP:PB M L)(hv:qm v<=M)(hx:-10000000<=x/\x<=10000000)(C:fit (100*M+1000) N)
  (h:∀ V',VOk V' (JM L x v)->K (JM L x v).length (JM L x v).length (Aj (F3 (JM L x v))) (e||(g||false)) (V'.flatMap RatD.av)=X) :
  E4 N x d.av g L.length L.length (Aj (F3 L)) e (V.flatMap RatD.av) K=X:=by
 have G:=hP.n;have hV1:=hV.1
 rw[Yh];unfold O4
 by_cases h2:2<=L.length
 ·have i1:L.length - 1<L.length:=by omega
  have i2:L.length - 2<L.length:=by omega
  have xl:(F3 L).length=L.length:=Azv ..
  have x1:(F3 L)[L.length - 1]'(by omega)=L[L.length - 1].1:=Azq ..
  have x2:(F3 L)[L.length - 2]'(by omega)=L[L.length - 2].1:=Azq ..
  have b1:=hP.x _ (Axv i1);have b2:=hP.x _ (Axv i2)
  have q1:=hP.q _ (Axv i1);have q2:=hP.q _ (Axv i2)
  have c1:=hV.2 (L.length - 1) (by omega) i1;have c2:=hV.2 (L.length - 2) (by omega) i2
  have w1:wrap .i64 ((L.length:Int) - 1)=((L.length - 1:Nat):Int):=vg (k:=1) (by omega) (by omega)
  have w2:wrap .i64 ((L.length:Int) - 2)=((L.length - 2:Nat):Int):=vg (k:=2) (by omega) (by omega)
  have wx:wrap .i64 (x - L[L.length - 1].1)=x - L[L.length - 1].1:=Ar _ (by omega)
  have wy:wrap .i64 (L[L.length - 1].1 - L[L.length - 2].1)=L[L.length - 1].1 - L[L.length - 2].1:=Ar _ (by omega)
  rw[decide_eq_true (show((L.length:Int)>=2) by omega),ct,w1,w2,Aa i1,ct,Aa i2,ct,As8 (by omega),ct,As8 (by omega),ct,Awj (by omega),Awj (by omega)]
  have s1:=Od L[L.length - 1].2 L[L.length - 2].2
  have s2:=Od v L[L.length - 1].2
  have t1:=qi (v:=x - L[L.length - 1].1) (by omega)
  have t2:=qi (v:=L[L.length - 1].1 - L[L.length - 2].1) (by omega)
  have m1:=J4 (L[L.length - 1].2 - L[L.length - 2].2) ((x - L[L.length - 1].1:Int):Rat)
  have m2:=J4 (v - L[L.length - 1].2) ((L[L.length - 1].1 - L[L.length - 2].1:Int):Rat)
  refine rf c1 c2 (C.le (by omega)) fun a ha=>?_
  rw[Ap5 (by omega),x1,wx]
  refine Ev (by omega) (by have:=C.1;omega) fun b hb=>?_
  refine TJ ha hb (C.le (by omega)) fun c hc=>?_
  rw[c3,ct,Ys,b3,ct]
  refine rf D c1 (C.le (by omega)) fun a' I=>?_
  rw[Ap5 (by omega),x1,ct,Ap5 (by omega),x2,wy]
  refine Ev (by omega) (by have:=C.1;omega) fun b' T=>?_
  refine TJ I T (C.le (by omega)) fun c' Y=>?_
  rw[c3,ct,b3,ct,b3,ct,Ys,Ys,As5 (hc.is (m:=2*M+100) (by omega)) (Y.is (m:=2*M+100) (by omega)) (C.le (by omega)),Arf]
  have ea:Ac5 L x v=decide ((L[L.length - 1].2 - L[L.length - 2].2)*((x - L[L.length - 1].1:Int):Rat)=(v - L[L.length - 1].2)*((L[L.length - 1].1 - L[L.length - 2].1:Int):Rat)):=by
   unfold Ac5;rw[dif_pos h2,Ayi,Ayi];rfl
  rw[<-ea]
  unfold JM at h
  cases hA:Ac5 L x v with
  |true =>
   rw[hA]at h
   rw[ct,decide_eq_true (show(0:Int)<=0 by omega),decide_eq_true (show(0:Int)<=((L.length - 1:Nat):Int) by omega),decide_eq_true (show((L.length - 1:Nat):Int)<=(L.length:Int) by omega),decide_eq_true (show(L.length:Int)<=(L.length:Int) by omega)]
   rw[show(if true=true then L.take (L.length - 1)else L)=L.take (L.length - 1)from rfl]at h
   exact io (N:=N) (n:=L.length - 1) hV D (by omega) G h
  |false =>
   rw[hA]at h
   rw[cf]
   rw[show(if false=true then L.take (L.length - 1)else L)=L from rfl]at h
   refine io (N:=N) hV D (Axo _) G ?_
   rw[Ayk];exact h
 ·rw[decide_eq_false (show ¬ ((L.length:Int)>=2) by omega),cf]
  refine io (N:=N) hV D (Axo _) G ?_
  have:JM L x v=L.take L.length++[(x,v)]:=by
   unfold JM Ac5;rw[dif_neg h2];simp
  rw[<-this];exact h
def Ty(L:Hy)(V:List RatD)(j:Bool):LA:=[.imm (Aj (F3 L)) L.length 1 false false,.imm (V.flatMap RatD.av) L.length 3 false j]
def fU(L:Hy)(x:Int)(v:Rat):(JM L x v).length<=L.length+1:=by unfold JM;split<;>simp<;>omega
def Acg{L:Hy}{x:Int}{v:Rat}{p:Int×Rat}(h:p∈JM L x v):p∈L\/p=(x,v):=by
 unfold JM at h
 rcases Axz.1 h with h|h
 ·left;split at h
  ·exact A1g h
  ·exact h
 ·right;simpa using h
def PB.add{M:Nat}{L:Hy}{x:Int}{v:Rat}(h:PB M L)(D:qm v<=M)(G:-10000000<=x/\x<=10000000)(hn:L.length<30000000):PB M (JM L x v):=by
 refine⟨fun p k=>?_,fun p k=>?_,by have:=fU L x v;omega⟩
 ·rcases Acg k with C|rfl
  ·exact h.x _ C
  ·exact G
 ·rcases Acg k with C|rfl
  ·exact h.q _ C
  ·exact D
def Lz(l:List Int):(Aj l).length=l.length:=by unfold Aj;simp
def Am0(L:Hy):(Aj (F3 L)).take (L.length*1)=Aj (F3 L):=Axl (by rw[Lz];unfold F3;simp)
def Am1{L:Hy}{V:List RatD}(h:VOk V L):(V.flatMap RatD.av).take (L.length*3)=V.flatMap RatD.av:=Axl (by rw[Xb,h.1];omega)
def Aoy{w p:Int}(h:-1048576<=w/\w<=1048576/\-1048576<=p/\p<=1048576):-1099511627776<=w*p/\w*p<=1099511627776:=by
 have k:=A0c w p
 have C:w.natAbs*p.natAbs<=1048576*1048576:=Azk (by omega) (by omega)
 omega
def Ag3{K:LA->Bool->O R}{u:UnitD}{M:Nat}{o:Bool}(I:Are u.segs.l)(Y:u.segs.l.length<=8)(hM:2<=M)(D:fit (100*M+1000) N):∀(m j fuel:Nat)(x c:Int)(L:Hy)(V:List RatD)(d:RatD),j+m=u.segs.l.length->m<fuel->d.can (c:Rat)->VOk V L->PB M L->L.length<=j+1 ->
  -1048576*((j:Int)+1)<=x->x<=1048576*((j:Int)+1)->-2000000000000*(j:Int)<=c->c<=2000000000000*(j:Int) ->
  (∀ V',VOk V' (Ajq (u.segs.l.drop j) x c L)->PB M (Ajq (u.segs.l.drop j) x c L)->K (Ty (Ajq (u.segs.l.drop j) x c L) V' false) false=X) ->
  D5 N K (u.segs.l.flatMap SegD.av) u.segs.l.length o fuel x (u.segs.l.length:Int) (j:Int) L.length L.length d.av (Aj (F3 L)) false (V.flatMap RatD.av)=X
|0,j,fuel+1,x,c,L,V,d,hj,_,T,hV,hP,hL,_,_,_,_,h=>by
  rw[D5];unfold Jj
  rw[Ki (by omega),cf,Am0,Am1 hV]
  have:=h V
  rw[Hw (by omega),Ajq]at this
  exact this hV hP
|m+1,j,fuel+1,x,c,L,V,d,hj,hfu,T,hV,hP,hL,x1,x2,c1,c2,h=>by
  rw[D5];unfold Jj
  have k:j<u.segs.l.length:=by omega
  have hr:=I u.segs.l[j] (Axv k)
  rw[Jo k,ct,Aa k,ct,y9 k]
  have p0:take 2 ((AV.int .i64 u.segs.l[j].width)::(AV.int .i64 u.segs.l[j].price)::(u.segs.l.drop (j+1)).flatMap SegD.av)=[.int .i64 u.segs.l[j].width,.int .i64 u.segs.l[j].price]:=rfl
  rw[p0,show ble 2 (List.length ((AV.int .i64 u.segs.l[j].width)::(AV.int .i64 u.segs.l[j].price)::(u.segs.l.drop (j+1)).flatMap SegD.av))=true by simp,ct]
  rw[show((!o)||A9 [AV.int .i64 u.segs.l[j].width,.int .i64 u.segs.l[j].price])=true by cases o<;>rfl,ct]
  rw[show((beq (List.length [AV.int .i64 u.segs.l[j].width,.int .i64 u.segs.l[j].price]) 2)&&((ble 2 2)&&(!false)))=true from rfl,ct]
  rw[y_,b3,ct,y_]
  simp only[ya]
  have iw:=qi (v:=u.segs.l[j].width) (by omega)
  have ip:=qi (v:=u.segs.l[j].price) (by omega)
  have hp:=Aoy hr
  have ic:=qi (v:=c) (by omega)
  have m1:=J4 (u.segs.l[j].width:Rat) (u.segs.l[j].price:Rat)
  refine Ev (by omega) (by have:=D.1;omega) fun a ha=>?_
  refine Ev (by omega) (by have:=D.1;omega) fun b hb=>?_
  refine TJ ha hb (D.le (by omega)) fun e he=>?_
  rw[Ys]
  refine rf T he (D.le (by omega)) fun d' C=>?_
  rw[<-A2h,<-Ayi]at C
  rw[Auk,ct,Afd,b3,ct,Ys,Ar _ (by omega),wS (by omega)]
  have G:qm ((c - u.segs.l[j].width*u.segs.l[j].price:Int):Rat)<=M:=Ay7 (qi (by omega)) hM
  refine Ap6 hV C hP G (by omega) D fun V' hV'=>?_
  refine Ag3 I Y hM D m (j+1) fuel _ _ _ V' d' (by omega) (by omega) C hV' (hP.add G (by omega) (by omega)) (by have:=fU L (x+u.segs.l[j].width) ((c - u.segs.l[j].width*u.segs.l[j].price:Int):Rat);omega) (by omega) (by omega) (by omega) (by omega) fun V2 h1 h2=>?_
  have:=h V2
  rw[Fo k,Ajq,<-A2h,<-Ayi]at this
  exact this h1 h2
def Xw(u:UnitD):Hy:=Ajq u.segs.l u.min 0 [(u.min,0)]
def As9{K:LA->Bool->O R}{u:UnitD}{M:Nat}{o:Bool}(I:Are u.segs.l)(L:u.segs.l.length<=8)(hm:-1048576<=u.min/\u.min<=1048576)(hM:2<=M)(C:fit (100*M+1000) N)
  (h:∀ V,VOk V (Xw u)->PB M (Xw u)->K (Ty (Xw u) V false) false=X):Lt N u.av o K=X:=by
 rw[Yi];unfold O5
 rw[u2]
 refine Ev (by omega) (by have:=C.1;omega) fun a T=>?_
 rw[show(beq (List.length a.av) 3&&ble 3 3)=true from rfl,ct,u2]
 refine Ev (by omega) (by have:=C.1;omega) fun b Y=>?_
 rw[c3,ct,u4]
 have z2:qm ((0:Int):Rat)<=2:=qi (by omega)
 refine Ag3 I L hM C u.segs.l.length 0 N u.min 0 [(u.min,((0:Int):Rat))] [a] b (by omega) (by have:=C.1;omega) Y ⟨rfl,fun i D G=>?_⟩ ⟨fun p k=>?_,fun p k=>?_,by simp⟩ (by simp) (by omega) (by omega) (by omega) (by omega) fun V D G=>?_
 ·have:i=0:=by simp at D;omega
  subst this;exact T
 ·simp at k;subst k;show -10000000<=u.min/\u.min<=10000000;omega
 ·simp at k;subst k;show qm ((0:Int):Rat)<=M;omega
 ·rw[Ayh]at D G;exact h V D G
def Arg{K:LA->O R}{ys:List Int}(G:1<=ys.length)(I:ys.length<=16777216)(hr:∀ t∈ys,-9223372036854775808<=t/\t<=9223372036854775807)(h:K (Aj (ST ys))=X):Fk N ys.length (Aj ys) K=X:=by
 rw[Fz];unfold F9
 have e1:(Aj ys).take ys.length=Aj ys:=Axl (by rw[Lz];omega)
 have k:(Aj ys).drop ys.length=[]:=Ayv (by rw[Lz];omega)
 have e3:(Aj ys).all yY=true:=by
  rw[A04];unfold Aj;intro x C
  obtain⟨t,D,rfl⟩:=Ayy.1 C
  have:=hr t D
  show(decide _&&decide _)=true
  rw[decide_eq_true this.1,decide_eq_true this.2];rfl
 have e4:(Aj ys).map Ake=ys:=by unfold Aj;rw[A0x];exact List.map_id _
 rw[e1,k,e3,e4,show ble 1 ys.length=true by rw[Ays];omega,show ble ys.length 16777216=true by rw[Ays];omega]
 rw[Ay5];exact h
def Am2(ys:List Int):(ST ys).Pairwise (·<=·):=by
 have:=List.pairwise_mergeSort (le:=fun x y:Int=>decide (x<=y)) (fun a b c k C=>by simp at *;omega) (fun a b=>by simp;omega) ys
 exact this.imp fun h=>by simpa using h
def Ajr{ys:List Int}{t:Int}:t∈ST ys↔t∈ys:=List.mem_mergeSort
def jE{ys:List Int}:(ST ys).length=ys.length:=A3w _
def Ata{l:List Int}{j:Nat}(h:j<l.length){f:Int->O R}:Aq .i64 (drop j (Aj l)) f=f l[j]:=by
 have:=Ap5 (R:=R) h (f:=f)
 rwa [Axm,Ax0,Ax4]at this
def Asc.of{P:List Int}(h:P.Pairwise (·<·)):Asc P:=fun i hi=>Azd.1 h i (i+1) (by omega) hi (by omega)
def Avj{K:Nat->LA->O R}{Q:Int->O R}{b:LA}{xs:List Int}(hs:xs.Pairwise (·<=·))(hN:xs.length<=30000000)
  (h:∀ P G0,Asc P->(∀ t,t∈P↔t∈xs)->P.length<=xs.length->K P.length (Aj P++G0)=X) {i:Nat} (hi:i<xs.length):∀(m f fuel:Nat)(P G:List Int),i+f+m=xs.length->m<fuel->1<=f->P.Pairwise (·<·)->(∀ t,t∈P↔t∈xs.take (i+f))->P.length<=i+f - 1->G.length=xs.length->G.take P.length=P->G.drop (i+f - 1)=xs.drop (i+f - 1) ->
  Bv N Q K xs.length b fuel (P.length:Int) i (xs.length - i) (f:Int) (Aj G)=X
|0,f,fuel+1,P,G,hm,_,I,C,k,hl,hG,hGt,hGd=>by
  rw[Bv];unfold F7
  rw[Ki (by omega),cf,decide_eq_true (show(0:Int)<=P.length by omega),decide_eq_true (show(P.length:Int)<=(xs.length:Nat) by omega),decide_eq_true (show(xs.length:Int)<=(xs.length:Nat) by omega),decide_eq_true (show(0:Int)<=0 by omega)]
  show K P.length (Dd (Aj G) (0+P.length*1) _)=X
  unfold Dd
  rw[Ax0,Ax4,Azz,show(Aj G).take P.length=Aj P by unfold Aj;rw[<-A4c,hGt]]
  refine h P _ (Asc.of C) (fun t=>?_) (by omega)
  rw[k t,Axl (by omega)]
| m+1,f,fuel+1,P,G,hm,hfu,I,C,k,hl,hG,hGt,hGd=>by
  rw[Bv];unfold F7
  have L:G[i+f]'(by omega)=xs[i+f]:=by
   have:=congrArg (fun l=>l[1]?) hGd
   simp only[Ayw]at this
   rw[show i+f - 1+1=i+f by omega,Axn (by omega),Axn (by omega)]at this
   exact A3s this
  have g0:G[i+f - 1]'(by omega)=xs[i+f - 1]:=by
   have:=congrArg (fun l=>l[0]?) hGd
   simp only[Ayw]at this
   rw[Ayq,Axn (by omega),Axn (by omega)]at this
   exact A3s this
  have e0:wrap .i64 ((f:Int) - 1)=((f - 1:Nat):Int):=vg I (by omega)
  have T:G.drop (i+(f+1) - 1)=xs.drop (i+(f+1) - 1):=by
   have:=congrArg (drop 1) hGd
   rw[A3z,A3z]at this
   rwa [show i+f - 1+1=i+(f+1) - 1 by omega]at this
  have tk:xs.take (i+(f+1))=xs.take (i+f)++[xs[i+f]]:=by rw[<-Ay8,Ax5 (by omega)]
  rw[Jo (by omega),ct,Aa (by omega),ct,Axm,Ax4,Ata (by omega),e0,Aa (by omega),ct,Axm,Ax4,show i+(f - 1)=i+f - 1 by omega,Ata (by omega),L,g0]
  have le1:xs[i+f - 1]<=xs[i+f]:=Azd.1 hs _ _ (by omega) (by omega) (by omega)
  by_cases D:xs[i+f]=xs[i+f - 1]
  ·rw[show(xs[i+f] != xs[i+f - 1])=false by rw[D];simp,cf,wS (by omega)]
   refine Avj hs hN h hi m (f+1) fuel P G (by omega) (by omega) (by omega) C (fun t=>?_) (by omega) hG hGt T
   rw[tk,k t,Axz,A0s]
   constructor
   ·exact .inl
   ·rintro(h|rfl)
    ·exact h
    ·rw[D];exact A0u.2 ⟨i+f - 1,by omega,rfl⟩
  ·rw[show(xs[i+f] != xs[i+f - 1])=true by simp[D],ct,Aa (by omega),Ata (by omega),L,ct,Lz,Ax0,Axm,Ax4,show(beq 1 1&&(ble (P.length+1) G.length&&!false))=true by
    rw[show ble (P.length+1) G.length=true by rw[Ays];omega];rfl,ct,wS (by omega),wS (by omega)]
   have es:(Aj G).set P.length (.int .i64 xs[i+f])=Aj (G.set P.length xs[i+f]):=by unfold Aj;rw[A11]
   have Y:(P++[xs[i+f]]).length=P.length+1:=by simp
   rw[es,<-Y]
   refine Avj hs hN h hi m (f+1) fuel (P++[xs[i+f]]) _ (by omega) (by omega) (by omega) ?_ (fun t=>?_) (by omega) (by simpa using hG) ?_ ?_
   ·rw[A1h]
    refine⟨C,by simp,fun t ht y hy=>?_⟩
    rw[A0s]at hy;subst hy
    obtain⟨j,hj,rfl⟩:=A0u.1 ((k t).1 ht)
    by_cases ej:j=i+f - 1
    ·subst ej;omega
    ·have:=Azd.1 hs j (i+f - 1) (by omega) (by omega) (by omega);omega
   ·rw[tk,Axz,Axz,k t]
   ·rw[Y,List.take_set,Ax5 (by omega),hGt,A16 _ _ (Axo _),A2p];rfl
   ·rw[A38 (by omega)];exact T
def Awk{K:Nat->LA->O R}{xs:List Int}(hs:xs.Pairwise (·<=·))(hN:xs.length<=30000000)(hNN:40000000<=N)
  (h:∀ P G0,Asc P->(∀ t,t∈P↔t∈xs)->P.length<=xs.length->K P.length (Aj P++G0)=X):∀(m d fuel:Nat),d+m=xs.length->m<fuel->1<=d->(xs.take d).Pairwise (·<·) ->
  Bj N K xs.length (Aj xs) fuel (d:Int)=X
|0,d,fuel+1,L,_,D,k=>by
  rw[Bj];unfold F8
  rw[Ki (by omega),cf]
  have:=h xs [] (Asc.of (by rwa [Axl (by omega)]at k)) (fun t=>Iff.rfl) (Axo _)
  rwa [Ay5]at this
| m+1,d,fuel+1,L,T,D,k=>by
  rw[Bj];unfold F8
  have Y:wrap .i64 ((d:Int) - 1)=((d - 1:Nat):Int):=vg D (by omega)
  rw[Jo (by omega),ct,Aa (by omega),ct,Ap5 (by omega),Y,Aa (by omega),ct,Ap5 (by omega)]
  have le1:xs[d - 1]<=xs[d]:=Azd.1 hs _ _ (by omega) (by omega) (by omega)
  by_cases C:xs[d]=xs[d - 1]
  ·rw[show(xs[d]==xs[d - 1])=true by simp[C],ct,decide_eq_true (show(0:Int)<=(d:Int) by omega),decide_eq_true (show(d:Int)<=(xs.length:Int) by omega),decide_eq_true (show(xs.length:Int)<=(xs.length:Int) by omega)]
   show Bv N _ K xs.length (Aj xs) N (d:Int) (0+d*1) (xs.length - d) ((1:Nat):Int) (Aj xs)=X
   rw[Ax0,Ax4]
   have G:(xs.take d).length=d:=by rw[Ax6];omega
   have:=Avj (N:=N) (Q:=Bj N K xs.length (Aj xs) fuel) (b:=Aj xs) hs hN h (i:=d) (by omega) m 1 N (xs.take d) xs (by omega) (by omega) (Axo _) k (fun t=>by
    rw[Ax5 (by omega),Axz,A0s]
    constructor
    ·exact .inl
    ·rintro(h|rfl)
     ·exact h
     ·rw[C];exact A0u.2 ⟨d - 1,by omega,rfl⟩) (by omega) rfl (by rw[G]) rfl
   rw[G]at this;exact this
  ·rw[show(xs[d]==xs[d - 1])=false by simp[C],cf,wS (by omega)]
   refine Awk hs hN hNN h m (d+1) fuel (by omega) (by omega) (by omega) ?_
   rw[Ax5 (by omega),A1h]
   refine⟨k,by simp,fun t ht y I=>?_⟩
   rw[A0s]at I;subst I
   obtain⟨j,hj,rfl⟩:=A0u.1 ht
   by_cases ej:j=d - 1
   ·subst ej;omega
   ·have:=Azd.1 hs j (d - 1) (by omega) (by omega) (by omega);omega
def Ajs{K:Nat->LA->O R}{xs:List Int}(hs:xs.Pairwise (·<=·))(k:2<=xs.length)(hN:xs.length<=30000000)(hNN:40000000<=N)
  (h:∀ P G0,Asc P->(∀ t,t∈P↔t∈xs)->P.length<=xs.length->K P.length (Aj P++G0)=X):Cr N xs.length (Aj xs) K=X:=by
 rw[Rk];unfold Ij
 rw[decide_eq_false (by omega),cf]
 refine Awk hs hN hNN h (xs.length - 1) 1 N (by omega) (by omega) (by omega) ?_
 match xs,k with
|a::r,_=>simp
end
end Gx.Uo
namespace Gx
open Go Go.Proofs
section
variable{R:Type}
def Aoz(q:Rat):q*(q.den:Rat)=(q.num:Rat):=by
 have C:(q.den:Rat)≠0:=by
  have:=q.den_pos
  exact A4v (A2i.2 this)
 have k:q=(q.num:Rat)/((q.den:Int):Rat):=by rw[<-Rat.divInt_eq_div,Rat.num_divInt_den]
 have D:((q.den:Int):Rat)=(q.den:Rat):=rfl
 rw[D]at k
 calc q*(q.den:Rat)=(q.num:Rat)/(q.den:Rat)*(q.den:Rat):=by rw[<-k]
  _=q.num:=A4l C
end
end Gx
namespace Gx.Uo
open Go Go.Proofs
section
variable{R:Type}{N:Nat}{X:O R}
def Atb{y:RatD}{q:Rat}(h:y.can q)(I:q≠0):(⟨y.neg,y.ds,y.ns⟩:RatD).q=q⁻¹:=by
 have L:=q.den_pos
 have hn:q.num≠0:=fun e=>I (A1b.1 e)
 have T:=Aoz q
 have hdR:(q.den:Rat)≠0:=A4v (A2i.2 L)
 have e1:(⟨y.neg,y.ds,y.ns⟩:RatD).q=mkRat (if q.num<0 then -(q.den:Int)else(q.den:Int)) q.num.natAbs:=by
  show mkRat (Ax y.neg y.ds) (val y.ns.l)=_
  unfold Ax
  rw[h.1,h.2.1,h.2.2,Ak,Ak]
  by_cases C:q.num<0
  ·rw[decide_eq_true C,if_pos C,if_pos rfl]
  ·rw[decide_eq_false C,if_neg C,if_neg (by simp)]
 have k:(q.num.natAbs:Rat)≠0:=A4v (A2i.2 (by omega))
 have Y:mkRat (if q.num<0 then -(q.den:Int)else(q.den:Int)) q.num.natAbs*q=1:=by
  rw[A2c]
  by_cases C:q.num<0
  ·rw[if_pos C]
   have e3:(q.num.natAbs:Rat)=-(q.num:Rat):=by
    have G:(q.num.natAbs:Int)=-q.num:=by omega
    have D:((q.num.natAbs:Int):Rat)=((-q.num:Int):Rat):=by rw[G]
    rw[Rat.intCast_neg]at D
    exact D
   have e4:((-(q.den:Int):Int):Rat)=-(q.den:Rat):=by rw[Rat.intCast_neg];rfl
   rw[e4]
   rw[e3]at k ⊢
   rw[A1j]
   have:=A1x _ k
   grind
  ·rw[if_neg C]
   have e3:(q.num.natAbs:Rat)=(q.num:Rat):=by
    have G:(q.num.natAbs:Int)=q.num:=by omega
    have D:((q.num.natAbs:Int):Rat)=(q.num:Rat):=by rw[G]
    exact D
   have e4:(((q.den:Int):Int):Rat)=(q.den:Rat):=rfl
   rw[e4]
   rw[e3]at k ⊢
   rw[A1j]
   have:=A1x _ k
   grind
 rw[e1]
 have:=A1x q I
 grind
def Arh{K:LA->Bool->O R}{x y:RatD}{p q:Rat}{o:Bool}(D:x.can p)(k:y.can q)(L:q≠0)(T:fit (8*(qm p+qm q)+40) N)(h:∀ d:RatD,d.can (p/q)->K d.av true=X):yO N x.av o y.av false K=X:=by
 let C:RatD:=⟨y.neg,.of y.ds.l false false,.of y.ns.l false false⟩
 have G:C.m=qm q:=by rw[<-k.m];show max _ _=max _ _;exact Nat.max_comm _ _
 have I:C.q=q⁻¹:=Atb k L
 obtain⟨d,Y,d2⟩:=jC (R:=R) (N:=N) (x:=x) (y:=C) (o:=o) (o':=(false||(false||false))) D.ok ⟨k.ok.2,k.ok.1⟩ (by rw[G,D.m];exact T)
 rw[I,D.q,<-A1j]at Y
 have hs:(q.num.sign==0)=false:=by
  rw[beq_eq_false_iff_ne];intro e
  exact L (A1b.1 (A1l.1 e))
 rw[pv];unfold yN
 rw[b3,ct,Ys,I8 k.ok (T.le (by rw[k.m];omega)),k.q,hs,cf,b3,ct,Ys]
 show DD y.av _=_
 have hb:∀ f:Bool->O R,DD y.av f=f y.neg:=fun f=>rfl
 rw[hb,mj,Ajg]
 have e:([.bool y.neg,.imm (Ae y.ds.l) y.ds.l.length 1 false false,.imm (Ae y.ns.l) y.ns.l.length 1 false false]:LA)=C.av:=rfl
 rw[e,d2];exact h d Y
def Atc{a b:Int}{r0:Bool->O R}:Zc N a b r0=r0 (decide (a<b)):=by
 rw[HU];unfold FW
 rw[S6];unfold S5
 rw[show(a != a)=false by simp];rfl
def yh{xs:List Int}{c:Int}{f g:Bool}{r0:Int->Bool->O R}(hs:xs.Pairwise (·<·))(hl:xs.length<=30000000)(h1:∀ p (h:p<xs.length),xs[p]=c->r0 (p:Int) true=X)(Y:∀ p:Nat,p<=xs.length->(∀ k (h:k<xs.length),k<p->xs[k]<c)->(∀ k (h:k<xs.length),p<=k->c<xs[k])->r0 (p:Int) false=X):
  ∀(fuel b i:Nat),b<=i->i<=xs.length->i - b<fuel->(∀ k (h:k<xs.length),k<b->xs[k]<c)->(∀ k (h:k<xs.length),i<=k->c<=xs[k]) ->
   Bz N r0 (Aj xs) xs.length f g c fuel (xs.length:Int) (b:Int) (i:Int)=X
|0,_,_,_,_,h,_,_=>by omega
| fuel+1,b,i,hbi,G,hfu,a1,a2=>by
  have mono:=Azd.1 hs
  rw[Bz];unfold Gh
  by_cases hlt:b<i
  ·have hw:wrap .i64 (Int.fdiv (wrap .u64 (wrap .i64 ((b:Int)+(i:Int)))) (2 ^ 1))=(((b+i)/2:Nat):Int):=by
    have e1:wrap .i64 ((b:Int)+(i:Int))=((b+i:Nat):Int):=by rw[Ar _ (by omega)];omega
    have e2:wrap .u64 ((b+i:Nat):Int)=((b+i:Nat):Int):=wrap_u64 _ (by omega)
    have e3:Int.fdiv ((b+i:Nat):Int) (2 ^ 1)=(((b+i)/2:Nat):Int):=by
     rw[A2v _ (by decide)];rfl
    rw[e1,e2,e3,Ar _ (by omega)]
   have hm:(b+i)/2<xs.length:=by omega
   rw[Jo hlt,ct,hw,Aa hm,ct,Et hm,Atc,wS (by omega)]
   by_cases D:xs[(b+i)/2]<c
   ·rw[decide_eq_true D,ct]
    refine yh hs hl h1 Y fuel ((b+i)/2+1) i (by omega) G (by omega) (fun k T I=>?_) a2
    by_cases L:k=(b+i)/2
    ·subst L;exact D
    ·exact Int.lt_trans (mono k _ T hm (by omega)) D
   ·rw[decide_eq_false D,cf]
    refine yh hs hl h1 Y fuel b ((b+i)/2) (by omega) (by omega) (by omega) a1 (fun k T I=>?_)
    by_cases L:k=(b+i)/2
    ·subst L;omega
    ·have:=mono ((b+i)/2) k hm T (by omega);omega
  ·have hbe:b=i:=by omega
   subst hbe
   rw[Ki (by omega),cf]
   by_cases C:b<xs.length
   ·rw[Jo C,show(true==true)=true from rfl,ct,Aa C,ct,Et C]
    by_cases D:xs[b]=c
    ·rw[show((xs[b]==c)==false)=false by simp[D],cf];exact h1 b C D
    ·rw[show((xs[b]==c)==false)=true by simp[D],ct,ct,Et C,IB]
     unfold FX
     rw[show(xs[b] != xs[b])=false by simp]
     show r0 (b:Int) false=X
     refine Y b G a1 fun k T I=>?_
     have:=a2 b C (Axo _)
     by_cases e:k=b
     ·subst e;omega
     ·have:=mono b k C T (by omega);omega
   ·rw[Ki (by omega),show(false==true)=false from rfl,cf]
    exact Y b G a1 fun k T I=>by omega
def Avk{xs:List Int}{c:Int}{n:Nat}{f g:Bool}{r0:Int->Bool->O R}(hs:xs.Pairwise (·<·))(hn:n=xs.length)(D:xs.length<=30000000)(hN:40000000<=N)(C:∀ p (h:p<xs.length),xs[p]=c->r0 (p:Int) true=X)(G:∀ p:Nat,p<=xs.length->(∀ k (h:k<xs.length),k<p->xs[k]<c)->(∀ k (h:k<xs.length),p<=k->c<xs[k])->r0 (p:Int) false=X):Dz N (Aj xs) n f g c r0=X:=by
 subst hn
 rw[Lv];unfold E8
 exact yh hs D C G N 0 xs.length (A07 _) (Axo _) (by omega) (fun k _ h=>by omega) (fun k C I=>by omega)
def Atd{f:F1}{L:Hy}(c:Cv f L):(F3 L).Pairwise (·<·):=by
 rw[Azd]
 intro i j hi C k
 unfold F3 at *
 rw[Azq,Azq]
 have D:j<L.length:=by simpa using C
 have:=c.lt i (by omega)
 have:=c.mono j (i+1) k D
 omega
def Ari{a:Rat}{v:Int}(h:0<v)(k:v<=9223372036854775807):qm (a/(v:Rat))<=qm a+2:=by
 have e:((v:Int):Rat)⁻¹=mkRat 1 v.toNat:=by
  rw[A2c,A1j,show((v.toNat:Nat):Rat)=((v:Int):Rat)from congrArg (fun z:Int=>(z:Rat)) (show(v.toNat:Int)=v by omega)]
  show _=(1:Rat)*_
  rw[Rat.one_mul]
 rw[A1j,e]
 have C:=J4 a (mkRat 1 v.toNat)
 have k:=Ag0 1 v.toNat 2 (by decide) (by omega) (by omega)
 omega
def yi{L:Hy}{V:List RatD}{j:Bool}{f:LA->Nat->O R}:Bq 1 (Ty L V j) f=f (Aj (F3 L)) L.length:=rfl
def Am3{L:Hy}{V:List RatD}{j:Bool}{f:LA->Nat->O R}:Bq 3 (drop 1 (Ty L V j)) f=f (V.flatMap RatD.av) L.length:=rfl
def Arj{V:List RatD}{j:Nat}(h:j<V.length):take 3 (drop ((Int.toNat (j:Int))*3) (V.flatMap RatD.av))=V[j].av:=by rw[CO h];rfl
def Ajt{V:List RatD}{j:Nat}(h:j<V.length):ble 3 (drop ((Int.toNat (j:Int))*3) (V.flatMap RatD.av)).length=true:=by rw[CO h];rfl
def Aff{K:LA->Bool->O R}{f:F1}{L:Hy}{V:List RatD}{M:Nat}{x:Int}{j c:Bool}(hV:VOk V L)(hP:PB M L)(hc:Cv f L)(h0:(L[0]'(hc.ne)).1<=x)(h1:x<=(L[L.length - 1]'(by have:=hc.ne;omega)).1)(I:fit (100*M+1000) N)(hNN:40000000<=N)
  (h:∀(d:RatD)(o:Bool),d.can (f x)->K d.av o=X):Cp N (Ty L V j) c x K=X:=by
 have hne:=hc.ne
 have T:=hP.n;have hV1:=hV.1
 have xl:(F3 L).length=L.length:=Azv ..
 have xg:∀ i (hi:i<L.length),(F3 L)[i]'(by omega)=L[i].1:=fun i hi=>Azq ..
 rw[EJ];unfold BW
 rw[yi]
 refine Avk (Atd hc) xl.symm (by omega) hNN (fun p D Y=>?_) (fun p D a1 a2=>?_)
 ·rw[xl]at D
  rw[xg p D]at Y
  rw[ct,Am3,Aa D,ct,Ajt (by omega),ct,Arj (by omega),c3,ct,b3,ct,Ys]
  have:=hV.2 p (by omega) D
  rw[<-hc.val p D,Y]at this
  exact h _ _ this
 ·rw[xl]at D
  have hp0:0<p:=by
   refine Nat.pos_of_ne_zero fun e=>?_
   have:=a2 0 (by omega) (by omega);rw[xg 0 hne]at this;omega
  have C:p<L.length:=by
   refine A2a fun e=>?_
   have:=a1 (L.length - 1) (by omega) (by omega);rw[xg _ (by omega)]at this;omega
  have q1:=hP.q _ (Axv C);have q0:=hP.q _ (Axv (show p - 1<L.length by omega))
  have b1:=hP.x _ (Axv C);have b0:=hP.x _ (Axv (show p - 1<L.length by omega))
  have l1:=a2 p (by omega) (Axo _);have l0:=a1 (p - 1) (by omega) (by omega)
  rw[xg _ (by omega)]at l1 l0
  have w1:wrap .i64 ((p:Int) - 1)=((p - 1:Nat):Int):=vg (k:=1) (by omega) (by omega)
  have wx:wrap .i64 (L[p].1 - L[p - 1].1)=L[p].1 - L[p - 1].1:=Ar _ (by omega)
  have wy:wrap .i64 (x - L[p - 1].1)=x - L[p - 1].1:=Ar _ (by omega)
  have s1:=Od L[p].2 L[p - 1].2
  have t1:=qi (v:=L[p].1 - L[p - 1].1) (by omega)
  have t2:=qi (v:=x - L[p - 1].1) (by omega)
  have G:((L[p].1 - L[p - 1].1:Int):Rat)≠0:=by
   intro e
   have e2:((L[p].1 - L[p - 1].1:Int):Rat)=((0:Int):Rat):=e
   have:=Rat.intCast_inj.1 e2;omega
  have m1:=Ari (a:=L[p].2 - L[p - 1].2) (v:=L[p].1 - L[p - 1].1) (by omega) (by omega)
  have m2:=J4 ((L[p].2 - L[p - 1].2)/((L[p].1 - L[p - 1].1:Int):Rat)) ((x - L[p - 1].1:Int):Rat)
  simp only[Am3,yi]
  rw[cf,Aa C,ct,Ajt (by omega),ct,w1,Aa (by omega),ct,Ajt (by omega),ct,Arj (by omega),Arj (by omega)]
  refine rf (hV.2 p (by omega) C) (hV.2 (p - 1) (by omega) (by omega)) (I.le (by omega)) fun a ha=>?_
  rw[c3,ct,b3,ct,ct,Et (by omega),ct,Et (by omega),xg _ C,xg _ (by omega),wx]
  refine Ev (by omega) (by have:=I.1;omega) fun b hb=>?_
  rw[Ys]
  refine Arh ha hb G (I.le (by omega)) fun e he=>?_
  rw[c3,ct,ct,ct,b3,ct,ct,Et (by omega),xg _ (by omega),wy]
  refine Ev (by omega) (by have:=I.1;omega) fun b' hb'=>?_
  rw[Ys]
  refine TJ he hb' (I.le (by omega)) fun g hg=>?_
  refine aT (hV.2 (p - 1) (by omega) (by omega)) hg (I.le (by omega)) fun r hr=>?_
  rw[c3,ct,b3,ct,Ys]
  refine h r _ ?_
  have e1:=hc.val p C;have e0:=hc.val (p - 1) (by omega)
  obtain⟨m,q,T⟩:=hc.lin (p - 1) (by omega)
  have ep:p - 1+1=p:=by omega
  simp only[ep]at T
  have k1:=nN l1;have k0:=nN l0
  have f1:=T L[p].1 (by grind) Azr
  have f0:=T L[p - 1].1 Azr (by grind)
  have fx:=T x (by grind) (by grind)
  rw[<-e1,<-e0,f1,f0]at hr
  rw[fx]
  rw[Ayi]at G
  rw[Ayi,Ayi,show m*(L[p].1:Rat)+q - (m*L[p - 1].1+q)=m*(L[p].1 - L[p - 1].1) by grind,show m*((L[p].1:Rat) - L[p - 1].1)/(L[p].1 - L[p - 1].1)=m by rw[A1j,A4f,A1x _ G,Rat.mul_one]]at hr
  rwa [show m*(L[p - 1].1:Rat)+q+m*(x - L[p - 1].1)=m*x+q by grind]at hr
def Ao0{K:LA->O R}{x y:RatD}{p q:Rat}{m n:Nat}{o o':Bool}(k:x.is p m)(C:y.is q n)(G:fit (8*(m+n)+40) N)(h:∀ d:RatD,d.can (p*q)->K d.av=X):Pm N x.av o y.av o' K=X:=by
 obtain⟨d,D,e⟩:=jC (R:=R) (N:=N) (o:=o) (o':=o') k.1 C.1 (G.le (by have:=k.2.2;have:=C.2.2;omega))
 rw[e];exact h d (by rw[k.2.1,C.2.1]at D;exact D)
def Ag4{w:Rat}:decide (w.num.sign>0)=decide (0<w):=by
 have:=Aot (q:=w)
 rw[decide_eq_decide]at this ⊢
 rw[<-A21,<-this];omega
def Le(a b:Int):Ca a b=F4 a b:=by
 unfold Ca F4
 by_cases h:b<a
 ·rw[decide_eq_true h,if_neg (by omega)];rfl
 ·rw[decide_eq_false h,if_pos (by omega)];rfl
def NA(a b:Int):Mj a b=Wj a b:=by
 unfold Mj Wj
 by_cases h:b>a
 ·rw[decide_eq_true h,if_pos (by omega)];rfl
 ·rw[decide_eq_false h]
  by_cases k:a<=b
  ·rw[if_pos k];show a=b;omega
  ·rw[if_neg k];rfl
end
end Gx.Uo
namespace Gx.Uo
open Go Go.Proofs
section
variable{R:Type}{N:Nat}{X:O R}
def Ao1{K:LA->Bool->LA->O R}{x:Int}{d:RatD}{v:Rat}(k:d.can v)(h:K (Aj [x]) false ([d].flatMap RatD.av)=X):Gi N x d.av false K=X:=by
 rw[Ym];unfold O6 Lc
 exact h
def Am4{f:F1}{xs:List Int}{k:Nat}(h:k<xs.length):bI f (xs.take (k+1))=JM (bI f (xs.take k)) xs[k] (f xs[k]):=by unfold bI;rw[Ax5 h,List.foldl_append];rfl
def Awl{l:List Int}{r:LA}{j:Nat}(h:j<l.length){f:Int->O R}:Aq .i64 (drop (0+((Int.toNat (j:Int))*1)) (Aj l++r)) f=f l[j]:=by
 rw[Ax0,Axm,Ax4,List.drop_append_of_le_length (by rw[Lz];omega)]
 unfold Aj
 rw[<-List.map_drop,Fo h];rfl
section
variable{r0:LA->Bool->O R}{F:F1}{M:Nat}{p q:Int}{l a':LA}{a c g:Bool}{b d f h:LA}{i j:Int}
def PX(p q t:Int):Bool:=decide (p<t)&&decide (t<q)
def Am5{lo hi:Int}{cs:List Int}:(VL lo hi cs).length<=(hi - lo+1).toNat:=by
 unfold VL
 exact Ay7 (A3v _ _) (by simp)
end
end
end Gx.Uo
namespace Gx.Uo
open Go Go.Proofs
section
variable{R:Type}{N:Nat}{X:O R}
def fV{p q:Rat}:decide (Zs p q>0)=decide (q<p):=by
 rw[decide_eq_decide];unfold Zs
 by_cases h:p<q
 ·rw[if_pos h];simp;grind
 ·rw[if_neg h];split
  ·simp;grind
  ·simp;grind
def jF{K:Int->O R}{L:Hy}{V:List RatD}{M S:Nat}{s:RatD}{sq:Rat}{o o' j:Bool}(hs:s.can sq)(I:qm sq<=S)(hV:VOk V L)(hP:PB M L)(G:fit (200*(M+S)+1000) N):∀(n k fuel m:Nat)(b:RatD)(bv:Rat)(T:m<L.length),k+n=L.length->n<fuel->1<=k->b.can bv->qm bv<=M+S+8 ->
  G2 N K (Aj (F3 L)) L.length o (Ty L V j) o' s.av fuel (m:Int) (L.length:Int) (k:Int) b.av=K (pk sq (L.drop k) L[m].1 bv)
|0,k,fuel+1,m,b,bv,T,hk,_,_,Y,hq=>by
  have hl:=hP.n;have hV1:=hV.1
  have xl:(F3 L).length=L.length:=Azv ..
  rw[G2];unfold M8
  rw[Ki (by omega),cf,yi,Aa T,ct,Et (by omega),Hw (by omega),pk]
  exact congrArg K (Azq ..)
| n+1,k,fuel+1,m,b,bv,T,hk,hfu,hk1,Y,hq=>by
  have hl:=hP.n;have hV1:=hV.1
  have xl:(F3 L).length=L.length:=Azv ..
  have xg:∀ i (hi:i<L.length),(F3 L)[i]'(by omega)=L[i].1:=fun i hi=>Azq ..
  rw[G2];unfold M8
  have C:k<L.length:=by omega
  have bx:=hP.x _ (Axv C);have bq:=hP.q _ (Axv C)
  have ix:=qi (v:=L[k].1) (by omega)
  have m1:=J4 sq (L[k].1:Rat)
  have m2:=Oc L[k].2 (sq*(L[k].1:Rat))
  rw[Jo C,ct,Aa C,ct,Et (by omega),Am3,Aa C,ct,Ajt (by omega),ct,b3,ct,xg _ C]
  refine Ev (by omega) (by have:=G.1;omega) fun a ha=>?_
  rw[Ys]
  refine TJ hs ha (G.le (by omega)) fun c hc=>?_
  rw[Arj (by omega)]
  refine aT (hV.2 k (by omega) C) hc (G.le (by omega)) fun d hd=>?_
  rw[c3,ct,show(((k:Int)==0)==false)=true by simp;omega,ct,b3,ct,b3,ct,Ys,Ys,As5 (hd.is (m:=M+S+8) (by omega)) (Y.is (m:=M+S+8) (by omega)) (G.le (by omega)),show(cond false true (decide (Zs (L[k].2+sq*(L[k].1:Rat)) bv>0)))=decide (bv<L[k].2+sq*(L[k].1:Rat))from fV,Fo C,wS (by omega)]
  rw[show ∀(x:Int)(v:Rat)(r:Hy)(b0:Int)(mm:Rat),pk sq ((x,v)::r) b0 mm=if mm<v+sq*x then pk sq r x (v+sq*x)else pk sq r b0 mm from fun _ _ _ _ _=>rfl]
  by_cases D:bv<L[k].2+sq*(L[k].1:Rat)
  ·rw[decide_eq_true D,ct,ct,Auk,ct,if_pos D,Afd]
   exact jF hs I hV hP G n (k+1) fuel k d _ C (by omega) (by omega) (by omega) hd (by omega)
  ·rw[decide_eq_false D,cf,if_neg D]
   exact jF hs I hV hP G n (k+1) fuel m b bv T (by omega) (by omega) (by omega) Y hq
def Afg{K:Int->O R}{L:Hy}{V:List RatD}{M S:Nat}{s:RatD}{sq:Rat}{o o' j:Bool}(C:0<L.length)(hs:s.can sq)(D:qm sq<=S)(hV:VOk V L)(hP:PB M L)(G:fit (200*(M+S)+1000) N)(hNN:40000000<=N):I7 N (Ty L V j) o s.av o' K=K (E9 sq L):=by
 rw[ES];unfold Td
 have Y:=hP.n;have hV1:=hV.1
 have xl:(F3 L).length=L.length:=Azv ..
 obtain⟨n,rfl⟩:∃ k,N=k+1:=⟨N - 1,by omega⟩
 have bx:=hP.x _ (Axv C);have bq:=hP.q _ (Axv C)
 have ix:=qi (v:=L[0].1) (by omega)
 have m1:=J4 sq (L[0].1:Rat)
 have m2:=Oc L[0].2 (sq*(L[0].1:Rat))
 rw[yi]
 show G3 (n+1) K (Aj (F3 L)) L.length o (Ty L V j) o' s.av (n+1) (L.length:Int)=_
 rw[G3];unfold Tc
 rw[show decide ((0:Int)<(L.length:Int))=true by simp;omega,ct,show Ac 0 L.length=true from Aa (i:=0) C,ct,show ∀ K:Int->O R,Aq .i64 (Aj (F3 L)) K=K ((F3 L)[0]'(by omega))from fun K=>Ata (j:=0) (by omega),Am3,show Ac 0 L.length=true from Aa (i:=0) C,ct,show ble 3 (V.flatMap RatD.av).length=true by rw[Xb,Ays];omega,ct,b3,ct,show(F3 L)[0]'(by omega)=L[0].1 from Azq ..]
 refine Ev (by omega) (by omega) fun a I=>?_
 rw[Ys]
 refine TJ hs I (G.le (by omega)) fun c hc=>?_
 rw[show take 3 (V.flatMap RatD.av)=(V[0]'(by omega)).av from Arj (j:=0) (by omega)]
 refine aT (hV.2 0 (by omega) C) hc (G.le (by omega)) fun d T=>?_
 rw[c3,ct,b3,ct,Ys,c3,ct]
 have:=jF (K:=K) (o:=o) (o':=o') (j:=j) hs D hV hP G (L.length - 1) 1 n 0 d _ C (by omega) (by omega) (by omega) T (by omega)
 have e:E9 sq L=pk sq (L.drop 1) L[0].1 (L[0].2+sq*(L[0].1:Rat)):=by
  match L,C with
  |(x,v)::r,_=>rfl
 rw[e]
 exact this
def fW{u:UnitD}{h:Int}(k:A8 u h=true):(0<=u.reserve/\u.reserve<=1048576)/\(0<=u.reservePrice/\u.reservePrice<=1048576):=by
 simp only[A8,Axr,Hu,decide_eq_true_eq]at k
 omega
def cU(u:UnitD):F1:=rk u.min u.segs.l
def yj:∀(l:List SegD)(x:Int)(v:Rat)(L:Hy),(Ajq l x v L).length<=L.length+l.length
|[],_,_,L=>Axo _
|s::r,x,v,L=>by
  rw[Ajq]
  have:=yj r (x+s.width) (v - s.width*s.price) (JM L (x+s.width) (v - s.width*s.price))
  have:=fU L (x+s.width) (v - s.width*s.price)
  rw[Ayb];omega
end
end Gx.Uo
namespace Gx
open Go Go.Proofs
section
variable{R:Type}
def Le(a b:Int):Ca a b=min a b:=by unfold Ca;by_cases h:b<a<;>simp[h]<;>omega
def NA(a b:Int):Mj a b=max a b:=by unfold Mj;by_cases h:b>a<;>simp[h]<;>omega
end
end Gx
namespace Gx
open Go Go.Proofs
section
variable{R:Type}
def vh(x:RatD)(r:LA):ble 3 (List.length (x.av++r))=true:=rfl
def jG(x:RatD)(r:LA):take 3 (x.av++r)=x.av:=rfl
def uR(u:UnitD):Prop:=(0<=u.min/\u.min<=1048576)/\(0<=u.max/\u.max<=1048576)/\(0<=u.rampUp/\u.rampUp<=1048576)/\(0<=u.rampDown/\u.rampDown<=1048576)/\(0<=u.reserve/\u.reserve<=1048576)/\(0<=u.startRamp/\u.startRamp<=1048576)/\(0<=u.stopRamp/\u.stopRamp<=1048576)/\(0<=u.noLoad/\u.noLoad<=1048576)/\(0<=u.hotCost/\u.hotCost<=1048576)/\(0<=u.coldCost/\u.coldCost<=1048576)/\(0<=u.reservePrice/\u.reservePrice<=1048576)/\(0<=u.output/\u.output<=1048576)
def Db{u:UnitD}{h:Int}(C:A8 u h=true):ii u=true/\uR u/\(1<=h/\h<=24):=by
 simp only[A8,Axr,Hu,decide_eq_true_eq]at C
 obtain⟨h1,G,h3,h4,h5,h6,h7,h8,h9,I,L,T,Y,h14,k,h16⟩:=C
 refine⟨G,?_,by omega⟩
 have ho:0<=u.output/\u.output<=1048576:=by
  unfold Ai5 at k
  cases D:(u.state==2)with
  |true=>rw[D]at k;simp[Hu]at k;omega
  |false=>rw[D]at k;simp at k;omega
 unfold uR;omega
def Aju{q:Rat}:(q.num.sign==0)=decide (q=0):=by rw[A0o];simp[A1l,A1b]
section
variable{N:Nat}{K:Bool->O R}{x y z:RatD}{e r v:Rat}{m:Nat}{o o' o'':Bool}{u:UnitD}{c:Int}
def Ate(k:x.is e m)(C:fit (8*m+10) N){K:Int->O R}:B_ N x.av o K=K e.num.sign:=by rw[lA k.1 (C.le (by have:=k.2.2;omega)),k.2.1]
end
end
end Gx
namespace Gx.Uo
open Go Go.Proofs
section
variable{R:Type}{N:Nat}{X:O R}
def Ark{K:LA->O R}{x y:RatD}{p q:Rat}{o o':Bool}(k:x.can p)(C:y.can q)(D:fit (8*(qm p+qm q)+40) N)(h:∀ d:RatD,d.can (if q<=p then p else q)->K d.av=X):yX N x.av o y.av o' K=X:=by
 rw[rC];unfold yW
 rw[b3,ct,b3,ct,Ys,Ys,YD k.ok C.ok (D.le (by rw[k.m,C.m];omega)),k.q,C.q,Amt]
 by_cases hc:q<=p
 ·obtain⟨c,c1,G⟩:=CN (R:=R) (N:=N) (o:=o) k.ok (D.le (by rw[k.m];omega))
  rw[k.q]at c1
  rw[decide_eq_true hc,ct,ct,G,c3,ct,b3,ct,Ys]
  exact h c (by rw[if_pos hc];exact c1)
 ·obtain⟨c,c1,G⟩:=CN (R:=R) (N:=N) (o:=o') C.ok (D.le (by rw[C.m];omega))
  rw[C.q]at c1
  rw[decide_eq_false hc,cf,ct,G,c3,ct,b3,ct,Ys]
  exact h c (by rw[if_neg hc];exact c1)
def un(u:UnitD):Un:=⟨u.min,u.max,u.rampUp,u.rampDown,u.startRamp,u.stopRamp,u.reserve,u.noLoad,u.reservePrice,u.output,u.state==2,cU u,Xw u⟩
def Atf(E:List RatD)(o:Bool):AV:=.imm (E.flatMap RatD.av) E.length 3 false o
def fm(u:UnitD)(hs:Int)(E Q:List RatD)(V:List RatD)(o1 o2:Bool)(r:LA):LA:=u.av++(.int .i64 hs::Atf E o1::Atf Q o2::(Ty (Xw u) V false++r))
section
variable{u:UnitD}{hs:Int}{E Q V:List RatD}{o1 o2:Bool}{r:LA}{f:Int->O R}{g:LA->Nat->O R}
def Asj:Aq .i64 ((fm u hs E Q V o1 o2 r).drop 2) f=f u.min:=Av
def Axa:Aq .i64 ((fm u hs E Q V o1 o2 r).drop 3) f=f u.max:=Av
def Axb:Aq .i64 ((fm u hs E Q V o1 o2 r).drop 5) f=f u.noLoad:=Av
def Avl:Aq .i64 ((fm u hs E Q V o1 o2 r).drop 6) f=f u.rampUp:=Av
def Axc:Aq .i64 ((fm u hs E Q V o1 o2 r).drop 7) f=f u.rampDown:=Av
def Avm:Aq .i64 ((fm u hs E Q V o1 o2 r).drop 8) f=f u.startRamp:=Av
def Arl:Aq .i64 ((fm u hs E Q V o1 o2 r).drop 16) f=f u.reserve:=Av
def Avn:Aq .i64 ((fm u hs E Q V o1 o2 r).drop 17) f=f u.reservePrice:=Av
def Avo:Aq .i64 ((fm u hs E Q V o1 o2 r).drop 19) f=f u.state:=Av
def Avp:Aq .i64 ((fm u hs E Q V o1 o2 r).drop 21) f=f u.output:=Av
def Avq:Bq 3 ((fm u hs E Q V o1 o2 r).drop 23) g=g (E.flatMap RatD.av) E.length:=rfl
def Avr:Bq 3 ((fm u hs E Q V o1 o2 r).drop 24) g=g (Q.flatMap RatD.av) Q.length:=rfl
def Atg:Bq 1 ((fm u hs E Q V o1 o2 r).drop 25) g=g (Aj (F3 (Xw u))) (Xw u).length:=rfl
def Axd:((fm u hs E Q V o1 o2 r).drop 25).take 2=Ty (Xw u) V false:=rfl
def Axe:ble 2 ((fm u hs E Q V o1 o2 r).drop 25).length=true:=rfl
def Axf:(fm u hs E Q V o1 o2 r).take 22=u.av:=rfl
def Axg:ble 22 (fm u hs E Q V o1 o2 r).length=true:=rfl
structure Pr(E:List RatD)(h:Nat)(a:Rat):Prop where
 lt:h<E.length
 is:E[h].is a 8
def Pr.qm{h:Nat}{a:Rat}(p:Pr E h a):qm a<=9:=p.is.qm
def yk{K:LA->O R}{h:Nat}{b:Rat}{o:Bool}(D:uR u)(p:Pr Q h b)(C:fit 1000 N)(k:∀ d:RatD,d.can (Az (un u) b)->K d.av=X):Gj N (fm u hs E Q V o1 o2 r) o (h:Int) K=X:=by
 have D:=D.2.2.2.2.2.2.2.2.2.2.1
 have hN:=Aom C
 have i0:=qi (v:=0) (by omega);have i1:=qi (v:=u.reservePrice) (by omega)
 have qb:=p.qm
 have s1:=Od b (u.reservePrice:Rat)
 rw[Yn];unfold U8
 refine Ev (by omega) (by omega) fun z G=>?_
 rw[Avr,Aa p.lt,ct,Ajt p.lt,ct,Avn]
 refine Ev (by omega) (by omega) fun i hi=>?_
 rw[Arj p.lt]
 refine Aov p.is (hi.is i1) (C.le (by omega)) fun j I=>?_
 refine Ark G I (C.le (by omega)) fun d L=>?_
 rw[c3,ct,b3,ct,Ys]
 refine k d ?_
 have:Az (un u) b=if b - (u.reservePrice:Rat)<=((0:Int):Rat)then((0:Int):Rat)else b - (u.reservePrice:Rat):=by
  show mx 0 (b - (u.reservePrice:Rat))=_
  unfold mx
  rw[show((0:Int):Rat)=0 from rfl];grind
 rw[this];exact L
def Xc{b:Rat}(k:uR u)(C:qm b<=9):qm (Az (un u) b)<=12:=by
 have k:=k.2.2.2.2.2.2.2.2.2.2.1
 have i0:=qi (v:=0) (by omega);have i1:=qi (v:=u.reservePrice) (by omega)
 have s1:=Od b (u.reservePrice:Rat)
 have:Az (un u) b=if 0<=b - (u.reservePrice:Rat)then b - (u.reservePrice:Rat)else((0:Int):Rat):=rfl
 rw[this];split<;>omega
def Am6{h:Int}(k:A8 u h=true):Upto (cU u) (Xw u) u.min u.max:=(vf (Ja k).2.1 (Ja k).2.2).1
def Am7{h:Int}(k:A8 u h=true){x:Int}(C:u.min<=x/\x<=u.max):qm (cU u x)<=500:=by
 have D:=Ce k
 have hs:=Ja k
 have i1:=qi (v:=x) (by omega);have i2:=qi (v:=u.min) (by omega)
 have s1:=Od (x:Rat) (u.min:Rat)
 have:=fT (A:=5) u.segs.l ((x:Rat) - u.min) (IR k) (by omega) (by omega)
 have G:u.segs.l.length*(5+3*u.segs.l.length+31)<=8*(5+24+31):=Azk hs.1 (by omega)
 unfold cU rk
 rw[yf];omega
def ym{hh:Int}(k:A8 u hh=true){a:Rat}(D:qm a<=9){x:Int}(C:u.min<=x/\x<=u.max):qm (own (un u) a x)<=520:=by
 have G:=Ce k
 have hn:=(Db k).2.1.2.2.2.2.2.2.2.1
 have i1:=qi (v:=x) (by omega);have i2:=qi (v:=u.noLoad) (by omega)
 have i3:=Am7 k C
 have m1:=J4 a (x:Rat)
 have m2:=Oc (a*x) (cU u x)
 have m3:=Od (a*x+cU u x) (u.noLoad:Rat)
 show qm (a*x+cU u x - (u.noLoad:Rat))<=520
 omega
def Ap7{K:LA->O R}{h:Nat}{hh x:Int}{a:Rat}{o:Bool}(D:A8 u hh=true)(p:Pr E h a)(hV:VOk V (Xw u))(hP:PB 500 (Xw u))(G:u.min<=x/\x<=u.max)(C:fit 1000000 N)(k:∀ d:RatD,d.can (own (un u) a x)->K d.av=X):P4 N (fm u hs E Q V o1 o2 r) o (h:Int) x K=X:=by
 have hm:=Ce D
 have hn:=(Db D).2.1.2.2.2.2.2.2.2.1
 have hN:100001000<=N:=by have:=C.1;omega
 have i1:=qi (v:=x) (by omega);have i2:=qi (v:=u.noLoad) (by omega)
 have i3:=Am7 D G
 have qa:=p.qm
 have m1:=J4 a (x:Rat)
 have m2:=Oc (a*x) (cU u x)
 have up:=Am6 D
 rw[EU];unfold CE
 rw[Avq,Aa p.lt,ct,Ajt p.lt,ct]
 refine Ev (by omega) (by omega) fun i hi=>?_
 rw[Arj p.lt]
 refine Ao0 p.is (hi.is i1) (C.le (by omega)) fun e T=>?_
 rw[c3,ct,b3,ct,Axe,ct,Axd]
 refine Aff hV hP up.cv (by rw[up.fst];exact G.1) (by rw[up.lst];exact G.2) (C.le (by omega)) (by omega) fun j l Y=>?_
 rw[Ys]
 refine aT T Y (C.le (by omega)) fun m I=>?_
 rw[Axb]
 refine Ev (by omega) (by omega) fun n L=>?_
 refine rf I L (C.le (by omega)) fun d hd=>?_
 rw[c3,ct,b3,ct,Ys]
 exact k d hd
def Am8{K:Bool->O R}{h:Nat}{o:Bool}:Di N (fm u hs E Q V o1 o2 r) o (h:Int) K=K (Kb (un u) h):=by
 rw[Rm];unfold N3
 unfold Kb
 by_cases e:h=0
 ·subst e
  rw[show(((0:Nat):Int)==0)=true from rfl,show(true==true)=true from rfl,ct,Avo];rfl
 ·rw[show((h:Int)==0)=false by simp;exact e,show(false==true)=false from rfl,cf,show(h==0)=false by simp[e]];rfl
end
end
end Gx.Uo
namespace Gx.Uo
open Go Go.Proofs
noncomputable section
variable{R:Type}{N:Nat}{X:O R}
def Arm(N:Nat)(f:Int->(LA->O R)->O R)(r0:LA->Bool->O R)(j:Nat)(l:LA):Nat->Int->Int->Nat->Nat->LA->Bool->LA->O R
|0=>fun _ _ _ _ _ _ _=>none
|n+1=>fun y s v w z x aa=>cond (decide (s<y)) (cond (Ac s j) (Aq .i64 (l.drop (0+(s.toNat*1))) fun ad=>f ad fun af=>E4 N ad af false v w z x aa fun ag ah ai aj ak=>Arm N f r0 j l n y (wrap .i64 (s+1)) ag ah ai aj ak) none) (r0 [.imm (z.take (v*1)) v 1 false false,.imm (aa.take (w*3)) w 3 false x] (x||false))
def Ask(N:Nat)(f:Int->(LA->O R)->O R)(r0:LA->Bool->O R)(j:Nat)(l:LA):Nat->Int->O R
|0=>fun _=>none
|n+1=>fun ab=>cond (decide (0<ab)) (cond (Ac 0 j) (Aq .i64 l fun ae=>f ae fun al=>Gi N ae al false fun am an ao=>Arm N f r0 j l n ab 1 1 1 am an ao) none) (r0 [.nsl,.nsl] false)
def Am9(N:Nat)(f:Int->(LA->O R)->O R)(r0:LA->Bool->O R)(m o:Int)(p:Nat)(i:LA):Nat->Nat->Int->Int->LA->O R
|0=>fun _ _ _ _=>none
|n+1=>fun q t r u=>cond (decide (r<t)) (cond (Ac r p) (Aq .i64 (i.drop (0+(r.toNat*1))) fun ac=>cond ((decide (ac>m))==true) (cond (cond true (decide (ac<o)) false) (cond ((ble (q+1) 140737488355328)&&(ble ((q+1)*8) 140737488355328)) (Am9 N f r0 m o p i n (q+1) t (wrap .i64 (r+1)) ((u.take (q*1))++[.int .i64 ac])) none) (Am9 N f r0 m o p i n q t (wrap .i64 (r+1)) u)) (Am9 N f r0 m o p i n q t (wrap .i64 (r+1)) u)) none) (Fk N q u fun ap=>Cr N q ap fun j l=>Ask N f r0 j l N (j:Int))
section
variable{r0:LA->Bool->O R}{F:F1}{M:Nat}{p q:Int}{f:Int->(LA->O R)->O R}
def vj{xs:List Int}{G0:LA}(I:∀ x∈xs,0<=x/\x<=1048576)(hn:xs.length<=20000000)(C:∀ x∈xs,∀ K':LA->O R,(∀ d:RatD,d.can (F x)->K' d.av=X)->f x K'=X)(D:∀ x∈xs,qm (F x)<=M)(L:fit (100*M+1000) N)
  (hX:∀ V,VOk V (bI F xs)->PB M (bI F xs)->r0 (Ty (bI F xs) V false) false=X):∀(m u fuel:Nat)(V:List RatD),u+m=xs.length->m<fuel->VOk V (bI F (xs.take u))->PB M (bI F (xs.take u))->(bI F (xs.take u)).length<=u ->
  Arm N f r0 xs.length (Aj xs++G0) fuel (xs.length:Int) (u:Int) (bI F (xs.take u)).length (bI F (xs.take u)).length (Aj (F3 (bI F (xs.take u)))) false (V.flatMap RatD.av)=X
|0,u,fuel+1,V,T,_,hV,hP,Y=>by
  rw[Arm];dsimp only
  rw[Axl (by omega)]at hV hP ⊢
  rw[Ki (by omega),cf,Am0,Am1 hV]
  exact hX V hV hP
|m+1,u,fuel+1,V,T,hfu,hV,hP,Y=>by
  rw[Arm];dsimp only
  have k:u<xs.length:=by omega
  have G:=Axv k
  rw[Jo k,ct,Aa k,ct,Awl k,wS (by omega)]
  refine C _ G _ fun d' hd=>?_
  have hb:=I _ G
  have hq:=D _ G
  refine Ap6 hV hd hP hq (by omega) L fun V' hV'=>?_
  have e:=Am4 (f:=F) k
  rw[<-e]at hV' ⊢
  refine vj I hn C D L hX m (u+1) fuel V' (by omega) (by omega) hV' ?_ ?_
  ·rw[e];exact hP.add hq (by omega) (by omega)
  ·rw[e];have:=fU (bI F (xs.take u)) xs[u] (F xs[u]);omega
def Arn{xs:List Int}{G0:LA}(I:0<xs.length)(T:∀ x∈xs,0<=x/\x<=1048576)(hn:xs.length<=20000000)(C:∀ x∈xs,∀ K':LA->O R,(∀ d:RatD,d.can (F x)->K' d.av=X)->f x K'=X)(D:∀ x∈xs,qm (F x)<=M)(hf:fit (100*M+1000) N)(hNN:40000000<=N)
  (hX:∀ V,VOk V (bI F xs)->PB M (bI F xs)->r0 (Ty (bI F xs) V false) false=X):Ask N f r0 xs.length (Aj xs++G0) N (xs.length:Int)=X:=by
 obtain⟨n,rfl⟩:∃ k,N=k+1:=⟨N - 1,by omega⟩
 rw[Ask];dsimp only
 have L:=Axv I
 have hb:=T _ L
 have hq:=D _ L
 rw[show decide ((0:Int)<(xs.length:Int))=true by simp;omega,ct,show Ac 0 xs.length=true from Aa (i:=0) I,ct,show ∀ K:Int->O R,Aq .i64 (Aj xs++G0) K=K xs[0]from fun K=>Awl (j:=0) I]
 refine C _ L _ fun d' Y=>Ao1 Y ?_
 have e:bI F (xs.take 1)=[(xs[0],F xs[0])]:=by
  cases xs with
  |nil=>simp at I
  |cons x r=>rfl
 have:=vj (G0:=G0) (r0:=r0) T hn C D hf hX (xs.length - 1) 1 n [d'] (by omega) (by omega) (by
  rw[e];refine⟨rfl,fun i h1 h2=>?_⟩
  have:i=0:=by simp at h1;omega
  subst this;exact Y) (by
  rw[e];refine⟨fun z G=>?_,fun z G=>?_,by simp⟩
  ·simp at G;subst G;show -10000000<=xs[0]/\xs[0]<=10000000;omega
  ·simp at G;subst G;exact hq) (by rw[e];simp)
 rw[e]at this
 exact this
def NB{cs:List Int}(hn:cs.length<=10000000):∀(m t fuel:Nat)(ys:List Int),t+m=cs.length->m<fuel->ys.length<=t+2 ->
  (Am9 N f r0 p q cs.length (Aj cs) fuel ys.length (cs.length:Int) (t:Int) (Aj ys)=X↔(Fk N (ys++(cs.drop t).filter (PX p q)).length (Aj (ys++(cs.drop t).filter (PX p q))) fun ar=>Cr N (ys++(cs.drop t).filter (PX p q)).length ar fun m o=>Ask N f r0 m o N (m:Int))=X)
|0,t,fuel+1,ys,G,_,_=>by
  rw[Am9];dsimp only
  rw[Ki (by omega),cf,Hw (by omega),List.filter_nil,Ay5]
| m+1,t,fuel+1,ys,G,I,T=>by
  rw[Am9];dsimp only
  have k:t<cs.length:=by omega
  rw[Jo k,ct,Aa k,ct,Ap5 k,wS (by omega),Fo k,A0q]
  by_cases C:p<cs[t]
  ·rw[show(decide (cs[t]>p)==true)=true by simp[C],ct]
   by_cases D:cs[t]<q
   ·rw[decide_eq_true D,Aa3,ct,show PX p q cs[t]=true by unfold PX;rw[decide_eq_true C,decide_eq_true D];rfl,if_pos rfl,show(ble (ys.length+1) 140737488355328&&ble ((ys.length+1)*8) 140737488355328)=true by
     rw[show ble (ys.length+1) 140737488355328=true by rw[Ays];omega,show ble ((ys.length+1)*8) 140737488355328=true by rw[Ays];omega];rfl,ct]
    have e1:(Aj ys).take (ys.length*1)++[.int .i64 cs[t]]=Aj (ys++[cs[t]]):=by
     rw[Axl (by rw[Lz];omega)];unfold Aj;simp
    have L:(ys++[cs[t]]).length=ys.length+1:=by simp
    rw[e1,<-L,show ys++cs[t]::List.filter (PX p q) (drop (t+1) cs)=(ys++[cs[t]])++List.filter (PX p q) (drop (t+1) cs) by simp]
    exact NB hn m (t+1) fuel (ys++[cs[t]]) (by omega) (by omega) (by omega)
   ·rw[decide_eq_false D,Aa3,cf,show PX p q cs[t]=false by unfold PX;rw[decide_eq_false D];simp]
    exact NB hn m (t+1) fuel ys (by omega) (by omega) (by omega)
  ·rw[show(decide (cs[t]>p)==true)=false by simp[C],cf,show PX p q cs[t]=false by unfold PX;rw[decide_eq_false C];rfl]
   exact NB hn m (t+1) fuel ys (by omega) (by omega) (by omega)
def Ach{cs:List Int}(D:p<=q)(hp:0<=p)(hq:q<=1048576)(hn:cs.length<=10000000)(G:∀ x,p<=x->x<=q->∀ K':LA->O R,(∀ d:RatD,d.can (F x)->K' d.av=X)->f x K'=X)(L:∀ x:Int,p<=x->x<=q->qm (F x)<=M)(T:fit (100*M+1000) N)(hNN:40000000<=N)
  (hX:∀ V,VOk V (bI F (VL p q cs))->PB M (bI F (VL p q cs))->r0 (Ty (bI F (VL p q cs)) V false) false=X):Am9 N f r0 p q cs.length (Aj cs) N 2 (cs.length:Int) 0 [.int .i64 p,.int .i64 q]=X:=by
 refine(NB (r0:=r0) (p:=p) (q:=q) (cs:=cs) hn cs.length 0 N [p,q] (by omega) (by omega) (by simp)).2 ?_
 rw[Ayh]
 have fl:∀ t,t∈cs.filter (PX p q)↔t∈cs/\p<t/\t<q:=fun t=>by
  rw[Az5];unfold PX;simp
 have ln:([p,q]++cs.filter (PX p q)).length<=10000002:=by
  have:=A3v (PX p q) cs
  rw[Ax1];simp;omega
 have l2:2<=([p,q]++cs.filter (PX p q)).length:=by rw[Ax1];simp
 have mem:∀ t,t∈[p,q]++cs.filter (PX p q)↔t=p\/t=q\/(t∈cs/\p<t/\t<q):=fun t=>by
  rw[Axz,fl];simp[or_assoc]
 generalize [p,q]++cs.filter (PX p q)=ys at *
 refine Arg (by omega) (by omega) (fun t Y=>?_) ?_
 ·rcases(mem t).1 Y with h|h|h<;>omega
 rw[<-jE (ys:=ys)]
 refine Ajs (Am2 ys) (by rw[jE];omega) (by rw[jE];omega) hNN fun P G0 hP hm _=>?_
 have I:=wR (cs:=cs) D
 have e:P=VL p q cs:=Asc.eq hP I.asc fun t=>by rw[hm t,Ajr,mem t,I.mem t]
 subst e
 have k:∀ x∈VL p q cs,p<=x/\x<=q:=fun x C=>I.all D C
 exact Arn (I.ends D).1 (fun x C=>by have:=k x C;omega) (by have:=Am5 (lo:=p) (hi:=q) (cs:=cs);omega) (fun x C=>G x (k x C).1 (k x C).2) (fun x C=>L x (k x C).1 (k x C).2) T hNN hX
end
def Ath{r0:LA->Bool->O R}{j:Nat}{i a d g l:LA}{b c f:Bool}{h:Int}:∀ n,N1 N r0 j i a b c d f g h l n=Arm N (fun x K=>Cd N x a b c d f g h K) r0 j l n
|0=>rfl
|n+1=>by rw[N1,Ath n];rfl
def Avs{r0:LA->Bool->O R}{j:Nat}{i a d g l:LA}{b c f:Bool}{h:Int}:∀ n,N2 N r0 j i a b c d f g h l n=Ask N (fun x K=>Cd N x a b c d f g h K) r0 j l n
|0=>rfl
|n+1=>by rw[N2,Ath n];rfl
def Ati{r0:LA->Bool->O R}{m o:Int}{p:Nat}{i a d g:LA}{b c f:Bool}{h:Int}:∀ n,Jv N r0 m o p i a b c d f g h n=Am9 N (fun x K=>Cd N x a b c d f g h K) r0 m o p i n
|0=>rfl
|n+1=>by
  rw[Jv,Ati n];unfold Xu
  rw[Am9];simp only[Avs]
def Atj{r0:LA->Bool->O R}{g:Nat}{f a d h:LA}{b:Bool}{c:Int}:∀ n,N5 N r0 g f a b c d h n=Arm N (fun x K=>Cs N x a b c d K) r0 g h n
|0=>rfl
|n+1=>by rw[N5,Atj n];rfl
def Avt{r0:LA->Bool->O R}{g:Nat}{f a d h:LA}{b:Bool}{c:Int}:∀ n,N6 N r0 g f a b c d h n=Ask N (fun x K=>Cs N x a b c d K) r0 g h n
|0=>rfl
|n+1=>by rw[N6,Atj n];rfl
def Atk{r0:LA->Bool->O R}{i j:Int}{l:Nat}{f a d:LA}{b:Bool}{c:Int}:∀ n,Jw N r0 i j l f a b c d n=Am9 N (fun x K=>Cs N x a b c d K) r0 i j l f n
|0=>rfl
|n+1=>by
  rw[Jw,Atk n];unfold Xv
  rw[Am9];simp only[Avt]
end
end Gx.Uo
namespace Gx.Uo
open Go Go.Proofs
section
variable{R:Type}{N:Nat}{X:O R}
def TK:∀ l:List Int,A9 (Aj l)=true
|[]=>rfl
|_::r=>TK r
def Ana{L:Hy}{V:List RatD}{j d:Bool}{K:Int->O R}(h:0<L.length):Ju N (Ty L V j) d K=K (fstP L):=by
 rw[CB];unfold Xs
 rw[yi,show Ac 0 L.length=true from Aa (i:=0) h,ct]
 have xl:(F3 L).length=L.length:=Azv ..
 have:=Ata (R:=R) (l:=F3 L) (j:=0) (by omega) (f:=K)
 rw[Ayh]at this
 rw[this,Ac6 h]
 exact congrArg K (Azq ..)
def Anb{L:Hy}{V:List RatD}{j d:Bool}{K:Int->O R}(h:0<L.length)(D:L.length<=30000000):Mg N (Ty L V j) d K=K (lstP L):=by
 rw[ET];unfold CC
 have xl:(F3 L).length=L.length:=Azv ..
 have C:wrap .i64 ((L.length:Int) - 1)=((L.length - 1:Nat):Int):=vg (k:=1) h (by omega)
 rw[yi,yi,C,Aa (by omega),ct,Et (by omega)]
 refine congrArg K ((Azq ..).trans ?_)
 unfold lstP
 rw[A1n,A1m,Axn (by omega)];rfl
def Afh(L:Hy)(V:List RatD)(j:Bool)(w:RatD)(x y:Int):LA:=Ty L V j++(w.av++[.int .i64 x,.int .i64 y])
section
variable{u:UnitD}{hs:Int}{E Q V:List RatD}{o1 o2:Bool}{r:LA}
def Afi{K:LA->Bool->O R}{h:Nat}{b:Rat}{L:Hy}{W:List RatD}{M:Nat}{j o c:Bool}(D:uR u)(p:Pr Q h b)(hL:0<L.length)(hW:VOk W L)(hP:PB M L)(hM:M<=4500)(C:fit 1000000 N)
  (k:∀ w:RatD,w.can (Az (un u) b)->K (Afh L W j w (E9 0 L) (E9 (Az (un u) b) L)) (c||false)=X):Bw N (fm u hs E Q V o1 o2 r) o (h:Int) (Ty L W j) c K=X:=by
 have hN:100001000<=N:=by have:=C.1;omega
 have hq:=Xc D p.qm
 rw[CA];unfold Xr
 refine yk D p (C.le (by omega)) fun w G=>?_
 rw[c3,ct,show ble 2 (List.length (Ty L W j))=true from rfl,ct,b3,ct,ct]
 refine Ev (by omega) (by omega) fun z I=>?_
 rw[show take 2 (Ty L W j)=Ty L W j from rfl,Ys,Afg hL I (S:=12) (Ay7 (qi (by omega)) (by omega)) hW hP (C.le (by omega)) (by omega),ct,ct,Afg hL G hq hW hP (C.le (by omega)) (by omega)]
 exact k w G
def Ajv(a b c:Int):Wj (Wj a b) c=Wj a (Wj b c):=by unfold Wj;grind
def Ajw(a b c:Int):F4 (F4 a b) c=F4 a (F4 b c):=by unfold F4;grind
def rm{K:Int->Int->O R}{x:Int}{w:Rat}{wd:RatD}{L:Hy}{W:List RatD}{M:Nat}{j o d:Bool}(k:uR u)(C:wd.can w)(hq:qm w<=12)(hL:0<L.length)(hP:PB M L)(hx:0<=x/\x<=1048576)(D:fit 1000 N):
  Be N (fm u hs E Q V o1 o2 r) o (Afh L W j wd (E9 0 L) (E9 w L)) d x K=K (fk (un u) L w x) (bJ (un u) L w x):=by
 have v1:=k.2.1;have v2:=k.2.2.1;have v3:=k.2.2.2.1;have v4:=k.2.2.2.2.1
 rw[W4];unfold Tf
 rw[Arl,Axa,Avl]
 have G:∀ f:Int->O R,Aq .i64 (drop 5 (Afh L W j wd (E9 0 L) (E9 w L))) f=f (E9 0 L):=fun f=>Av
 have I:∀ f:Int->O R,Aq .i64 (drop 6 (Afh L W j wd (E9 0 L) (E9 w L))) f=f (E9 w L):=fun f=>Av
 rw[G,I,show ble 2 (List.length (Afh L W j wd (E9 0 L) (E9 w L)))=true from rfl,ct,show take 2 (Afh L W j wd (E9 0 L) (E9 w L))=Ty L W j from rfl,Ana hL,Avl,ct,Anb hL hP.n,Axc,show ble 3 (drop 2 (Afh L W j wd (E9 0 L) (E9 w L))).length=true from rfl,ct,show take 3 (drop 2 (Afh L W j wd (E9 0 L) (E9 w L)))=wd.av from rfl,I8 C.ok (D.le (by rw[C.m];omega)),C.q,Ag4,Avl]
 have pb:∀ s:Rat,-10000000<=E9 s L/\E9 s L<=10000000:=fun s=>by
  obtain⟨e,T,Y,_⟩:=Af0 s hL
  rw[Y];exact hP.x e T
 have fb:-10000000<=fstP L/\fstP L<=10000000:=by rw[Ac6 hL];exact hP.x _ (Axv _)
 have lb:-10000000<=lstP L/\lstP L<=10000000:=by
  unfold lstP
  rw[A1n,A1m,Axn (show L.length - 1<L.length by omega)]
  exact hP.x _ (Axv _)
 have p0:=pb 0;have p1:=pb w
 simp only[Le,NA]
 rw[Ar (x+u.reserve) (by omega)]
 have t:Akk (un u) x=F4 (x+u.reserve) u.max:=rfl
 have tb:-10000000<=Akk (un u) x/\Akk (un u) x<=10000000:=by rw[t];unfold F4;split<;>omega
 rw[<-t]
 rw[Ar (Akk (un u) x - u.rampUp) (by omega),Ar (x - u.rampUp) (by omega),Ar (x+u.rampDown) (by omega),Ajv,Ajw]
 have eb:F4 (Wj (F4 (Wj (Akk (un u) x - u.rampUp) (E9 0 L)) (E9 w L)) (Wj (fstP L) (x - u.rampUp))) (F4 (lstP L) (x+u.rampDown))=fk (un u) L w x:=rfl
 rw[eb]
 have bb:-30000000<=fk (un u) L w x/\fk (un u) L w x<=30000000:=by
  rw[<-eb];unfold F4 Wj;split<;>split<;>split<;>split<;>split<;>split<;>omega
 rw[Ar (fk (un u) L w x+u.rampUp) (by omega)]
 have mb:-30000000<=F4 (Akk (un u) x) (fk (un u) L w x+u.rampUp)/\F4 (Akk (un u) x) (fk (un u) L w x+u.rampUp)<=30000000:=by unfold F4;split<;>omega
 rw[Ar _ (by omega)]
 unfold bJ
 by_cases h:0<w
 ·rw[decide_eq_true h,ct,if_pos h];rfl
 ·rw[decide_eq_false h,cf,if_neg h]
end
end
end Gx.Uo
namespace Gx.Uo
open Go Go.Proofs
section
variable{R:Type}{N:Nat}{X:O R}
def Rr{u:UnitD}{h:Int}(k:A8 u h=true):(un u).Ok:=by
 have D:=Ce k
 have hs:=Ja k
 have hR:=(Db k).2.1
 have C:=k
 simp only[A8,Axr,Hu,decide_eq_true_eq]at C
 refine⟨⟨D.1.1,D.2.2,D.2.1.2⟩,hR.2.2.1,hR.2.2.2.1,hR.2.2.2.2.1,?_,?_,fun G=>?_,Am6 k,(vf hs.2.1 hs.2.2).2⟩
 ·show u.min<=u.startRamp/\u.startRamp<=u.max;omega
 ·show u.min<=u.stopRamp/\u.stopRamp<=u.max;omega
 ·have G:u.state=2:=by simpa[un]using G
  have:=C.2.2.2.2.2.2.2.2.2.2.2.2.2.2.1
  unfold Ai5 at this
  rw[G]at this
  have this:u.min<=u.output/\u.output<=u.max:=by simpa[Hu]using this
  exact this
def Ag5{u:Un}(k:u.Ok){a b:Rat}{f:F1}{L:Hy}{lo hi x:Int}(s:Stage u f L lo hi)(x1:Wj u.min (lo - u.rd)<=x)(x2:x<=F4 u.max (hi+u.ru)):YJ u a b f L x=f (fk u L (Az u b) x:Int)+Az u b*(bJ u L (Az u b) x:Int)+own u a x:=by
 have:=(GH k (a:=a) (b:=b) s x1 x2).2.2
 rw[<-this]
 unfold P'
 by_cases h:0<Az u b
 ·have:=ni h;grind
 ·have e:bJ u L (Az u b) x=0:=by unfold bJ;rw[if_neg h]
  rw[e]
  have:((0:Int):Rat)=0:=rfl
  grind
section
variable{u:UnitD}{hs:Int}{E Q V:List RatD}{o1 o2:Bool}{r:LA}
def jH{hh:Int}(D:A8 u hh=true){a b:Rat}(G:qm a<=9)(I:qm b<=9){f:F1}{L:Hy}{lo hi x:Int}{B:Nat}(s:Stage (un u) f L lo hi)(hB:∀ y:Int,lo<=y->y<=hi->qm (f y)<=B)(x1:Wj u.min (lo - u.rampDown)<=x)(x2:x<=F4 u.max (hi+u.rampUp)):qm (YJ (un u) a b f L x)<=B+540/\(u.min<=x/\x<=u.max)/\(-10000000<=fk (un u) L (Az (un u) b) x/\fk (un u) L (Az (un u) b) x<=10000000)/\(-10000000<=bJ (un u) L (Az (un u) b) x/\bJ (un u) L (Az (un u) b) x<=10000000):=by
 have k:=Rr D
 have hm:=Ce D
 have hR:=(Db D).2.1
 have C:=GH k (a:=a) (b:=b) s x1 x2
 have l0:=s.l0;have l2:=s.l2
 have l0:u.min<=lo:=l0
 have l2:hi<=u.max:=l2
 have xr:u.min<=x/\x<=u.max:=by
  have:u.min<=Wj u.min (lo - u.rampDown):=by unfold Wj;split<;>omega
  have:F4 u.max (hi+u.rampUp)<=u.max:=by unfold F4;split<;>omega
  omega
 have r0:=C.2.1.r0;have r1:=C.2.1.r1
 have T:0<=bJ (un u) L (Az (un u) b) x:=Ayr.1 r0
 have Y:bJ (un u) L (Az (un u) b) x<=u.reserve:=Ayr.1 r1
 have rv:=hR.2.2.2.2.1
 rw[Ag5 k s x1 x2]
 have q1:=hB _ C.1.1 C.1.2
 have q2:=Xc (Db D).2.1 I
 have q3:=qi (v:=bJ (un u) L (Az (un u) b) x) (by omega)
 have q4:=ym D G xr
 have m1:=J4 (Az (un u) b) ((bJ (un u) L (Az (un u) b) x:Int):Rat)
 have m2:=Oc (f ((fk (un u) L (Az (un u) b) x:Int):Rat)) (Az (un u) b*((bJ (un u) L (Az (un u) b) x:Int):Rat))
 have m3:=Oc (f ((fk (un u) L (Az (un u) b) x:Int):Rat)+Az (un u) b*((bJ (un u) L (Az (un u) b) x:Int):Rat)) (own (un u) a x)
 exact⟨by omega,xr,by omega,by omega⟩
def Atl{K:LA->O R}{h:Nat}{hh x:Int}{a b:Rat}{wd:RatD}{f:F1}{L:Hy}{W:List RatD}{lo hi:Int}{B M:Nat}{j o d d':Bool}(G:A8 u hh=true)(s:Stage (un u) f L lo hi)(hB:∀ y:Int,lo<=y->y<=hi->qm (f y)<=B)(hBM:B<=4000)(pa:Pr E h a)(pb:Pr Q h b)(T:wd.can (Az (un u) b))(hW:VOk W L)(hP:PB M L)(hM:M<=4500)(hV:VOk V (Xw u))(hPc:PB 500 (Xw u))(x1:Wj u.min (lo - u.rampDown)<=x)(x2:x<=F4 u.max (hi+u.rampUp))(D:fit 1000000 N)
  (k:∀ d:RatD,d.can (YJ (un u) a b f L x)->K d.av=X):Cd N x (fm u hs E Q V o1 o2 r) o d (Afh L W j wd (E9 0 L) (E9 (Az (un u) b) L)) d' (Ty L W j) (h:Int) K=X:=by
 have ko:=Rr G
 have hR:=(Db G).2.1
 have hm:=Ce G
 have hN:100001000<=N:=by have:=D.1;omega
 obtain⟨_,xr,cb,cr⟩:=jH G (a:=a) pa.qm pb.qm s hB x1 x2
 have C:=GH ko (a:=a) (b:=b) s x1 x2
 have q1:=hB _ C.1.1 C.1.2
 have Y:=Xc hR pb.qm
 have q3:=qi (v:=bJ (un u) L (Az (un u) b) x) (by omega)
 have q4:=ym G pa.qm xr
 have m1:=J4 (Az (un u) b) ((bJ (un u) L (Az (un u) b) x:Int):Rat)
 have m2:=Oc (f ((fk (un u) L (Az (un u) b) x:Int):Rat)) (Az (un u) b*((bJ (un u) L (Az (un u) b) x:Int):Rat))
 rw[P5];unfold Ml
 rw[show ble 7 (List.length (Afh L W j wd (E9 0 L) (E9 (Az (un u) b) L)))=true from rfl,ct,show take 7 (Afh L W j wd (E9 0 L) (E9 (Az (un u) b) L))=Afh L W j wd (E9 0 L) (E9 (Az (un u) b) L)from rfl,rm hR T Y s.up.cv.ne hP (by omega) (D.le (by omega))]
 rw[show ble 2 (List.length (Ty L W j))=true from rfl,ct,show take 2 (Ty L W j)=Ty L W j from rfl]
 refine Aff hW hP s.up.cv (by rw[s.up.fst];exact C.1.1) (by rw[s.up.lst];exact C.1.2) (D.le (by omega)) (by omega) fun n o hn=>?_
 rw[show ble 3 (drop 2 (Afh L W j wd (E9 0 L) (E9 (Az (un u) b) L))).length=true from rfl,ct]
 refine Ev (by omega) (by omega) fun p hp=>?_
 rw[show take 3 (drop 2 (Afh L W j wd (E9 0 L) (E9 (Az (un u) b) L)))=wd.av from rfl]
 refine TJ T hp (D.le (by omega)) fun q hq=>?_
 refine aT hn hq (D.le (by omega)) fun i I=>?_
 rw[c3,ct,b3,ct]
 refine Ap7 G pa hV hPc xr D fun r' hr=>?_
 rw[Ys]
 refine aT I hr (D.le (by omega)) fun j' hj=>?_
 rw[c3,ct,b3,ct,Ys]
 exact k j' (by rw[Ag5 ko s x1 x2];exact hj)
def vq{r0:LA->Bool->O R}{L:Hy}{a b h:LA}{c d j:Bool}{f p q:Int}(D:uR u)(hP:∀ e∈L,-10000000<=e.1/\e.1<=10000000)(hn:L.length<=3000000)(C:UnitD)(G:C.rampDown=u.rampDown)(I:C.rampUp=u.rampUp)(An9:C.reserve=u.reserve):∀(m t fuel:Nat)(ys:List Int),t+m=L.length->m<fuel->ys.length<=100+3*t ->
  (Dh N r0 (Aj (F3 L)) L.length c a d f b j h fuel p q ys.length (L.length:Int) (t:Int) C.av (Aj ys)=X ↔
   W5 N p q (ys++(L.drop t).flatMap fun e=>[e.1 - u.rampDown,e.1+u.rampUp,e.1+u.rampUp - u.reserve]).length (Aj (ys++(L.drop t).flatMap fun e=>[e.1 - u.rampDown,e.1+u.rampUp,e.1+u.rampUp - u.reserve])) a d j h c b f (fun z ab=>cond ((beq 0 0)&&((beq z.length 2)&&(beq 2 2))) (cond (ble 2 z.length) (r0 (z.take 2) ab) none) none)=X)
|0,t,fuel+1,ys,Y,_,_=>by
  rw[Dh];unfold Il
  rw[Ki (by omega),cf,Hw (by omega),A3h,Ay5]
| m+1,t,fuel+1,ys,Y,hfu,hl=>by
  have v2:=D.2.2.1;have v3:=D.2.2.2.1;have v4:=D.2.2.2.2.1
  rw[Dh];unfold Il
  have k:t<L.length:=by omega
  have xl:(F3 L).length=L.length:=Azv ..
  have bx:=hP _ (Axv k)
  rw[Jo k,ct,Aa k,ct,Et (by omega),show(F3 L)[t]'(by omega)=L[t].1 from Azq ..,u7,u6,u6,Asg,G,I,An9,wS (by omega)]
  rw[show(ble (ys.length+3) 140737488355328&&ble ((ys.length+3)*8) 140737488355328)=true by
   rw[show ble (ys.length+3) 140737488355328=true by rw[Ays];omega,show ble ((ys.length+3)*8) 140737488355328=true by rw[Ays];omega];rfl,ct]
  rw[Ar (L[t].1 - u.rampDown) (by omega),Ar (L[t].1+u.rampUp) (by omega),Ar (L[t].1+u.rampUp - u.reserve) (by omega),Fo k,Aye]
  have e1:(Aj ys).take (ys.length*1)++[.int .i64 (L[t].1 - u.rampDown),.int .i64 (L[t].1+u.rampUp),.int .i64 (L[t].1+u.rampUp - u.reserve)]=Aj (ys++[L[t].1 - u.rampDown,L[t].1+u.rampUp,L[t].1+u.rampUp - u.reserve]):=by
   rw[Axl (by rw[Lz];omega)];unfold Aj;simp
  have T:(ys++[L[t].1 - u.rampDown,L[t].1+u.rampUp,L[t].1+u.rampUp - u.reserve]).length=ys.length+3:=by simp
  rw[e1,<-T,<-Azz]
  exact vq D hP hn C G I An9 m (t+1) fuel _ (by omega) (by omega) (by rw[T];omega)
end
end
end Gx.Uo
namespace Gx.Uo
open Go Go.Proofs
section
variable{R:Type}{N:Nat}{X:O R}{u:UnitD}{hs:Int}{E Q V:List RatD}{o1 o2:Bool}{r:LA}
def Cv.far{f:F1}{L:Hy}(c:Cv f L):∀ i (h:i<L.length),(L[0]'(c.ne)).1+(i:Int)<=L[i].1
|0,_=>by omega
|i+1,h=>by have:=c.far i (by omega);have:=c.lt i h;omega
def Upto.len{f:F1}{L:Hy}{a b:Int}(u:Upto f L a b):(L.length:Int)<=b - a+1:=by
 have k:=u.cv.ne
 have:=u.cv.far (L.length - 1) (by omega)
 rw[u.fst,u.lst]at this;omega
def Asl(L:Hy)(V:List RatD)(j:Bool):((beq 0 0)&&((beq (List.length (Ty L V j)) 2)&&(beq 2 2)))=true:=rfl
def Asm(L:Hy)(V:List RatD)(j:Bool):ble 2 (List.length (Ty L V j))=true:=rfl
def Asn(L:Hy)(V:List RatD)(j:Bool):take 2 (Ty L V j)=Ty L V j:=rfl
def Aci{K:LA->Bool->O R}{h:Nat}{hh:Int}{a b:Rat}{f:F1}{L:Hy}{W:List RatD}{lo hi:Int}{B M:Nat}{j o c:Bool}(C:A8 u hh=true)(s:Stage (un u) f L lo hi)(hB:∀ y:Int,lo<=y->y<=hi->qm (f y)<=B)(hBM:B<=4000)(pa:Pr E h a)(pb:Pr Q h b)(hW:VOk W L)(hP:PB M L)(hM:M<=4500)(hV:VOk V (Xw u))(hPc:PB 500 (Xw u))(D:fit 1000000 N)
  (k:∀ W',VOk W' (wQ (un u) a b f L)->PB (B+540) (wQ (un u) a b f L)->K (Ty (wQ (un u) a b f L) W' false) false=X):Bf N (fm u hs E Q V o1 o2 r) o (h:Int) (Ty L W j) c K=X:=by
 have G:fit (100*(B+540)+1000) N:=D.le (show 100*(B+540)+1000<=1000000 by omega)
 have hNN:40000000<=N:=by have:=D.1;omega
 have ko:=Rr C
 have hR:=(Db C).2.1
 have hm:=Ce C
 have hN:100001000<=N:=by have:=D.1;omega
 have v2:=hR.2.2.1;have v3:=hR.2.2.2.1;have v4:=hR.2.2.2.2.1
 have st:=fu ko a b s
 have l0:u.min<=lo:=s.l0
 have l1:=s.l1
 have l2:hi<=u.max:=s.l2
 have ef:fstP L=lo:=s.up.fstP
 have T:lstP L=hi:=s.up.lstP
 have hl:L.length<=3000000:=by have:=s.up.len;omega
 have sl:(Xw u).length<=1+u.segs.l.length:=yj _ _ _ _
 have s8:=(Ja C).1
 rw[W6];unfold M9
 rw[Axg,ct,Axf,show((beq 0 0)&&((beq (List.length u.av) 22)&&(beq 22 22)))=true from rfl,ct,Asm,ct,Asn]
 refine Afi hR pb s.up.cv.ne hW hP hM D fun w hw=>?_
 rw[show((beq 0 0)&&((beq (List.length (Afh L W j w (E9 0 L) (E9 (Az (un u) b) L))) 7)&&(beq 7 7)))=true from rfl,ct,u2,ct,Ana s.up.cv.ne,u7,u3,ct,Anb s.up.cv.ne hP.n,u6,u3,Asg,u3,u6,u7,Atg,TK,show((!o)||true)=true by cases o<;>rfl,ct]
 rw[show(ble (2+(Xw u).length) 140737488355328&&ble ((2+(Xw u).length)*8) 140737488355328)=true by
  rw[show ble (2+(Xw u).length) 140737488355328=true by rw[Ays];omega,show ble ((2+(Xw u).length)*8) 140737488355328=true by rw[Ays];omega];rfl,ct,yi,ef,T]
 rw[Ar (lo - u.rampDown) (by omega),Ar (hi+u.rampUp) (by omega),Ar (u.max - u.reserve) (by omega),Ar (u.max - u.rampUp) (by omega),Ar (u.max - u.rampUp - u.rampDown) (by omega),NA,Le]
 have e1:([.int .i64 (u.max - u.reserve),.int .i64 (u.max - u.rampUp - u.rampDown)]:LA)++Aj (F3 (Xw u))=Aj ([u.max - u.reserve,u.max - u.rampUp - u.rampDown]++F3 (Xw u)):=by unfold Aj;simp
 have I:2+(Xw u).length=([u.max - u.reserve,u.max - u.rampUp - u.rampDown]++F3 (Xw u)).length:=by unfold F3;simp;omega
 rw[e1,I]
 refine(vq hR hP.x hl u rfl rfl rfl L.length 0 N ([u.max - u.reserve,u.max - u.rampUp - u.rampDown]++F3 (Xw u)) (by omega) (by omega) (by rw[<-I];omega)).2 ?_
 rw[Ayh]
 have ec:([u.max - u.reserve,u.max - u.rampUp - u.rampDown]++F3 (Xw u))++L.flatMap (fun e=>[e.1 - u.rampDown,e.1+u.rampUp,e.1+u.rampUp - u.reserve])=NO (un u) L:=by
  unfold NO F3 un;simp
 rw[ec]
 have cl:(NO (un u) L).length<=10000000:=by
  rw[<-ec,Ax1,<-I]
  have:∀ l:Hy,(l.flatMap fun e=>[e.1 - u.rampDown,e.1+u.rampUp,e.1+u.rampUp - u.reserve]).length=3*l.length:=fun l=>by
   induction l with
   |nil=>rfl
   |cons x r ih=>rw[Aye,Ax1,ih];show 3+3*r.length=3*(r.length+1);omega
  rw[this];omega
 rw[OX];unfold Zm
 rw[Ati]
 have d0:u.min<=Wj u.min (lo - u.rampDown):=by unfold Wj;split<;>omega
 have d1:F4 u.max (hi+u.rampUp)<=u.max:=by unfold F4;split<;>omega
 have d2:Wj u.min (lo - u.rampDown)<=F4 u.max (hi+u.rampUp):=st.l1
 have Aud:∀ x:Int,Wj u.min (lo - u.rampDown)<=x->x<=F4 u.max (hi+u.rampUp)->qm (YJ (un u) a b f L x)<=B+540:=fun x x0 x1=>(jH C pa.qm pb.qm s hB x0 x1).1
 refine Ach (F:=YJ (un u) a b f L) (M:=B+540) d2 (by omega) (by omega) cl (fun x x0 x1 K' hK=>Atl C s hB hBM pa pb hw hW hP hM hV hPc x0 x1 D hK) Aud G hNN fun W' Y h2=>?_
 have eL:bI (YJ (un u) a b f L) (VL (Wj u.min (lo - u.rampDown)) (F4 u.max (hi+u.rampUp)) (NO (un u) L))=wQ (un u) a b f L:=by
  unfold wQ;rw[ef,T];rfl
 rw[eL]at Y h2 ⊢
 rw[Asl,ct,Asm,ct,Asn]
 exact k W' Y h2
def Afj{hh:Int}(k:A8 u hh=true){a b:Rat}(C:qm a<=9)(D:qm b<=9){x:Int}(x1:u.min<=x)(x2:x<=u.startRamp):qm (bL (un u) a b x)<=540/\bL (un u) a b x=own (un u) a x+Az (un u) b*(F4 u.reserve (u.startRamp - x):Int)/\(-10000000<=F4 u.reserve (u.startRamp - x)/\F4 u.reserve (u.startRamp - x)<=10000000):=by
 have hR:=(Db k).2.1
 have G:=Ce k
 have ko:=Rr k
 have s1:u.startRamp<=u.max:=ko.sr0.2
 have v4:=hR.2.2.2.2.1
 have ib:-10000000<=F4 u.reserve (u.startRamp - x)/\F4 u.reserve (u.startRamp - x)<=10000000:=by unfold F4;split<;>omega
 have e:bL (un u) a b x=own (un u) a x+Az (un u) b*(F4 u.reserve (u.startRamp - x):Int):=by
  rw[Akh,Ayi];rfl
 have I:=Xc hR D
 have L:=qi (v:=F4 u.reserve (u.startRamp - x)) (by omega)
 have T:=ym k C (x:=x) (by omega)
 have m1:=J4 (Az (un u) b) ((F4 u.reserve (u.startRamp - x):Int):Rat)
 have m2:=Oc (own (un u) a x) (Az (un u) b*((F4 u.reserve (u.startRamp - x):Int):Rat))
 exact⟨by rw[e];omega,e,ib⟩
def Atm{K:LA->O R}{h:Nat}{hh x:Int}{a b:Rat}{wd:RatD}{o:Bool}(C:A8 u hh=true)(pa:Pr E h a)(pb:qm b<=9)(G:wd.can (Az (un u) b))(hV:VOk V (Xw u))(hPc:PB 500 (Xw u))(x1:u.min<=x)(x2:x<=u.startRamp)(D:fit 1000000 N)
  (k:∀ d:RatD,d.can (bL (un u) a b x)->K d.av=X):Cs N x (fm u hs E Q V o1 o2 r) o (h:Int) wd.av K=X:=by
 have hR:=(Db C).2.1
 have Y:=Ce C
 have hN:100001000<=N:=by have:=D.1;omega
 obtain⟨q0,e,ib⟩:=Afj C pa.qm pb x1 x2
 have s1:u.startRamp<=u.max:=(Rr C).sr0.2
 have q2:=Xc hR pb
 have q3:=qi (v:=F4 u.reserve (u.startRamp - x)) (by omega)
 have q4:=ym C pa.qm (x:=x) (by omega)
 have m1:=J4 (Az (un u) b) ((F4 u.reserve (u.startRamp - x):Int):Rat)
 rw[Ro];unfold N4
 rw[Arl,Avm,Ar (u.startRamp - x) (by omega),Le]
 refine Ap7 C pa hV hPc (by omega) D fun i hi=>?_
 rw[b3,ct]
 refine Ev (by omega) (by omega) fun j I=>?_
 rw[Ys]
 refine TJ G I (D.le (by omega)) fun l L=>?_
 refine aT hi L (D.le (by omega)) fun g T=>?_
 rw[c3,ct,b3,ct,Ys]
 exact k g (by rw[e];exact T)
def Ao2{K:LA->Bool->O R}{h:Nat}{hh:Int}{a b:Rat}{o:Bool}(C:A8 u hh=true)(pa:Pr E h a)(pb:Pr Q h b)(hV:VOk V (Xw u))(hPc:PB 500 (Xw u))(D:fit 1000000 N)
  (k:∀ W',VOk W' (Ahl (un u) a b)->PB 540 (Ahl (un u) a b)->K (Ty (Ahl (un u) a b) W' false) false=X):Lx N (fm u hs E Q V o1 o2 r) o (h:Int) K=X:=by
 have ko:=Rr C
 have hR:=(Db C).2.1
 have hm:=Ce C
 have hN:100001000<=N:=by have:=D.1;omega
 have v4:=hR.2.2.2.2.1
 have T:u.min<=u.startRamp:=ko.sr0.1
 have s1:u.startRamp<=u.max:=ko.sr0.2
 have sl:(Xw u).length<=1+u.segs.l.length:=yj _ _ _ _
 have s8:=(Ja C).1
 rw[Yp];unfold Va
 refine yk hR pb (D.le (by omega)) fun w Y=>?_
 rw[c3,ct,Avm,Arl,Atg,TK,show((!o)||true)=true by cases o<;>rfl,ct]
 rw[show(ble (1+(Xw u).length) 140737488355328&&ble ((1+(Xw u).length)*8) 140737488355328)=true by
  rw[show ble (1+(Xw u).length) 140737488355328=true by rw[Ays];omega,show ble ((1+(Xw u).length)*8) 140737488355328=true by rw[Ays];omega];rfl,ct,Asj,Avm,Ar (u.startRamp - u.reserve) (by omega)]
 have e1:([.int .i64 (u.startRamp - u.reserve)]:LA)++Aj (F3 (Xw u))=Aj ((u.startRamp - u.reserve)::F3 (Xw u)):=by unfold Aj;simp
 have G:1+(Xw u).length=((u.startRamp - u.reserve)::F3 (Xw u)).length:=by unfold F3;simp;omega
 rw[e1,G,O_];unfold Zn
 rw[Atk]
 refine Ach (F:=bL (un u) a b) (M:=540) T (by omega) (by omega) (by rw[<-G];omega) (fun x x0 x1 K' hK=>Atm C pa pb.qm Y hV hPc x0 x1 D hK) (fun x x0 x1=>(Afj C pa.qm pb.qm x0 x1).1) (D.le (by omega)) (by omega) fun W' I L=>?_
 have eL:bI (bL (un u) a b) (VL u.min u.startRamp ((u.startRamp - u.reserve)::F3 (Xw u)))=Ahl (un u) a b:=rfl
 rw[eL]at I L ⊢
 rw[Asl,ct,Asm,ct,Asn]
 exact k W' I L
def Acj{K:LA->O R}{o:Bool}(hN:4<=N)(D:uR u)(k:∀ W',VOk W' (oL (un u))->PB 2 (oL (un u))->K (Ty (oL (un u)) W' false)=X):Fl N (fm u hs E Q V o1 o2 r) o K=X:=by
 have v:=D.2.2.2.2.2.2.2.2.2.2.2
 rw[W7];unfold Tg
 rw[Avp]
 refine Ev (by omega) hN fun c hc=>?_
 rw[show((beq (List.length c.av) 3)&&(ble 3 3))=true from rfl,ct]
 refine k [c] ⟨rfl,fun i G I=>?_⟩ ⟨fun p C=>?_,fun p C=>?_,by simp[oL]⟩
 ·have:i=0:=by simp at G;omega
  subst this;exact hc
 ·simp only[oL,A0s]at C;subst C;show -10000000<=u.output/\u.output<=10000000;omega
 ·simp only[oL,A0s]at C;subst C;exact qi (v:=0) (by omega)
end
end Gx.Uo
namespace Gx.Uo
open Go Go.Proofs
noncomputable section
variable{R:Type}{N:Nat}{X:O R}
abbrev KN(R:Type):=Nat->Nat->Nat->Nat->Nat->Nat->Nat->LA->LA->LA->LA->LA->LA->LA->Option R
abbrev KR(R:Type):=Nat->KN R
def Ajx(k:KN R)(n:Nat->Nat)(c:Nat->LA):O R:=k (n 0) (n 1) (n 2) (n 3) (n 4) (n 5) (n 6) (c 0) (c 1) (c 2) (c 3) (c 4) (c 5) (c 6)
def Avu(r0 r1 r2 r3 r4 r5 r6:KR R)(j:Nat)(n:Nat->Nat)(c:Nat->LA):O R:=match j with
|0=>r0 (n 0) (n 0) (n 1) (n 2) (n 3) (n 4) (n 5) (n 6) (c 0) (c 1) (c 2) (c 3) (c 4) (c 5) (c 6)
|1=>r1 (n 1) (n 0) (n 1) (n 2) (n 3) (n 4) (n 5) (n 6) (c 1) (c 0) (c 2) (c 3) (c 4) (c 5) (c 6)
|2=>r2 (n 2) (n 0) (n 1) (n 2) (n 3) (n 4) (n 5) (n 6) (c 2) (c 0) (c 1) (c 3) (c 4) (c 5) (c 6)
|3=>r3 (n 3) (n 0) (n 1) (n 2) (n 3) (n 4) (n 5) (n 6) (c 3) (c 0) (c 1) (c 2) (c 4) (c 5) (c 6)
|4=>r4 (n 4) (n 0) (n 1) (n 2) (n 3) (n 4) (n 5) (n 6) (c 4) (c 0) (c 1) (c 2) (c 3) (c 5) (c 6)
|5=>r5 (n 5) (n 0) (n 1) (n 2) (n 3) (n 4) (n 5) (n 6) (c 5) (c 0) (c 1) (c 2) (c 3) (c 4) (c 6)
|_=>r6 (n 6) (n 0) (n 1) (n 2) (n 3) (n 4) (n 5) (n 6) (c 6) (c 0) (c 1) (c 2) (c 3) (c 4) (c 5)
def up{α:Type}(f:Nat->α)(j:Nat)(v:α)(i:Nat):α:=cond (beq i j) v (f i)
def Qk{α:Type}{f:Nat->α}{j:Nat}{v:α}:up f j v j=v:=by unfold up;rw[A4s];rfl
def Ap8{α:Type}{f:Nat->α}{j:Nat}{v w:α}:up (up f j v) j w=up f j w:=by funext i;unfold up;cases beq i j<;>rfl
abbrev Rn:=List (Hy×List RatD)
def rc(l:Rn):LA:=l.flatMap fun p=>Ty p.1 p.2 false
def Aro(l:Rn):(rc l).length=l.length*2:=by
 induction l with
|nil=>rfl
|cons x r k=>unfold rc at *;rw[Aye,Ax1,k,Ayb];show 2+_=_;omega
def Ao3(l:Rn):(rc l).take (l.length*2)=rc l:=Axl (by rw[Aro];omega)
def Ack:∀(l:Rn)(i:Nat)(h:i<l.length),(rc l).drop (i*2)=Ty l[i].1 l[i].2 false++rc (l.drop (i+1))
|x::r,0,_=>rfl
|x::r,i+1,h=>by
  have:=Ack r i (by simpa using h)
  rw[show(i+1)*2=i*2+2 by omega]
  show(Ty x.1 x.2 false++rc r).drop (i*2+2)=_
  rw[show(Ty x.1 x.2 false++rc r).drop (i*2+2)=(rc r).drop (i*2)from rfl,this];rfl
def Ao4(l:Rn)(p:Hy×List RatD):rc (l++[p])=rc l++Ty p.1 p.2 false:=by unfold rc;simp
def fz(s:RB)(n:Nat->Nat)(c:Nat->LA):LA:=YZ s ((c 0).take (n 0*2)) (n 0) ((c 1).take (n 1*2)) (n 1) ((c 2).take (n 2*2)) (n 2) ((c 3).take (n 3*2)) (n 3) ((c 4).take (n 4*2)) (n 4) ((c 5).take (n 5*2)) (n 5) ((c 6).take (n 6*2)) (n 6)
section
variable{r0 r1 r2 r3 r4 r5 r6:KR R}{last:Int}{s:RB}
def Atn{k:Int->Int->KN R}{j:Nat}(C:j<6){ba:Int}{n:Nat->Nat}{c:Nat->LA}{v:LA}:Gp N k r0 r1 r2 r3 r4 r5 r6 last s (j:Int) ba (n 0) (n 1) (n 2) (n 3) (n 4) (n 5) (n 6) v (c 0) (c 1) (c 2) (c 3) (c 4) (c 5) (c 6) =
  cond (ble 2 v.length) (cond ((beq (v.take 2).length 2)&&ble 2 2) (cond (ble (n j+1) 140737488355328&&ble ((n j+1)*48) 140737488355328) (Ajx (k (j:Int) (wrap .i64 (ba+1))) (up n j (n j+1)) (up c j ((c j).take (n j*2)++(setCells [.nsl,.nsl] 0 (v.take 2)).take 2))) none) none) none:=by
 have:j=0\/j=1\/j=2\/j=3\/j=4\/j=5:=by omega
 rcases this with rfl|rfl|rfl|rfl|rfl|rfl<;>rfl
def Q2(N:Nat)(r0 r1 r2 r3 r4 r5 r6:KR R)(last:Int)(s:RB)(fuel:Nat)(n:Nat->Nat)(c:Nat->LA)(j:Int)(a:Int)(v:LA):O R:=Gp N (Ct N r0 r1 r2 r3 r4 r5 r6 last s fuel) r0 r1 r2 r3 r4 r5 r6 last s j a (n 0) (n 1) (n 2) (n 3) (n 4) (n 5) (n 6) v (c 0) (c 1) (c 2) (c 3) (c 4) (c 5) (c 6)
def Ato{j fuel:Nat}(k:j<6){a:Int}{n:Nat->Nat}{c:Nat->LA}:Ajx (Ct N r0 r1 r2 r3 r4 r5 r6 last s (fuel+1) (j:Int) a) n c =
  cond (decide (a<=last)) (cond (decide (a>(j:Int))) (cond (Ac (wrap .i64 ((wrap .i64 (a - (j:Int))) - 1)) (n j)) (cond (ble 2 (((c j).drop (0+(((wrap .i64 ((wrap .i64 (a - (j:Int))) - 1)).toNat)*2))).length)) (Bf N (fz s n c) true a (((c j).drop (0+(((wrap .i64 ((wrap .i64 (a - (j:Int))) - 1)).toNat)*2))).take 2) false fun bk bt=>cond (bt||false) none (cond ((beq 0 0)&&((beq bk.length 2)&&(beq 2 2))) (Q2 N r0 r1 r2 r3 r4 r5 r6 last s fuel n c (j:Int) a bk) none)) none) none)
   (Di N (fz s n c) true (j:Int) fun cd=>cond cd (Fl N (fz s n c) true fun ce=>Bf N (fz s n c) true a ce false fun br cf=>cond (cf||false) none (cond ((beq 0 0)&&((beq br.length 2)&&(beq 2 2))) (Q2 N r0 r1 r2 r3 r4 r5 r6 last s fuel n c (j:Int) a br) none)) (Lx N (fz s n c) true a fun bs cg=>cond (cg||false) none (cond ((beq 0 0)&&((beq bs.length 2)&&(beq 2 2))) (Q2 N r0 r1 r2 r3 r4 r5 r6 last s fuel n c (j:Int) a bs) none))))
   (Avu r0 r1 r2 r3 r4 r5 r6 j n c):=by
 have:j=0\/j=1\/j=2\/j=3\/j=4\/j=5:=by omega
 rcases this with rfl|rfl|rfl|rfl|rfl|rfl<;>rfl
def rB(u:UnitD)(hs:Int)(E Q V:List RatD)(o o1 o2:Bool)(n:Nat->Nat)(c:Nat->LA):RB:={nm:=u.name,bu:=u.bus,mi:=u.min,ma:=u.max,sc:=u.segs.l.flatMap SegD.av,sn:=u.segs.l.length,st:=false,so:=o,nl:=u.noLoad,ru:=u.rampUp,rd:=u.rampDown,sr:=u.startRamp,tr:=u.stopRamp,ut:=u.upTime,dt:=u.downTime,sT:=u.startTime,hc:=u.hotCost,cc:=u.coldCost,hh:=u.hotHours,rs:=u.reserve,rp:=u.reservePrice,ac:=u.away.l.flatMap CM,an:=u.away.l.length,aq:=false,ao:=o,us:=u.state,uh:=u.hours,uo:=u.output,hs:=hs,ec:=E.flatMap RatD.av,en:=E.length,et:=false,eo:=o1,qc:=Q.flatMap RatD.av,qn:=Q.length,qt:=false,qo:=o2,pc:=Aj (F3 (Xw u)),pn:=(Xw u).length,pt:=false,po:=false,vc:=V.flatMap RatD.av,vn:=(Xw u).length,vt:=false,vo:=false,na:=n 0,nb:=n 1,nc:=n 2,nd:=n 3,ne:=n 4,nf:=n 5,ng:=n 6,ka:=c 0,kb:=c 1,kc:=c 2,kd:=c 3,ke:=c 4,kf:=c 5,kg:=c 6}
def uN(u:UnitD)(o:Bool):UnitD:={u with segs:=.of u.segs.l false o,away:=.of u.away.l false o}
def Anc{u:UnitD}{hs:Int}{E Q V:List RatD}{o o1 o2:Bool}{n n':Nat->Nat}{c c':Nat->LA}:∃ r,fz (rB u hs E Q V o o1 o2 n c) n' c'=fm (uN u o) hs E Q V o1 o2 r:=⟨_,rfl⟩
def RI(u:UnitD)(a b:Nat->Rat)(j:Nat)(l:Rn):Prop:=∀ i (h:i<l.length),VOk l[i].2 l[i].1/\PB (540*(i+1)+2) l[i].1/\l[i].1=(runF (un u) a b j i).2
def yn{u:UnitD}{hh:Int}(k:A8 u hh=true){a b:Nat->Rat}{j:Nat}{H:Nat}(C:∀ h,h<H->qm (a h)<=9)(D:∀ h,h<H->qm (b h)<=9):∀ i,j+i<H->∀ y:Int,Bs (un u) j i<=y->y<=D2 (un u) j i->qm ((runF (un u) a b j i).1 y)<=540*(i+1)+2
| 0,hi,y,y1,y2=>by
  unfold runF;unfold Bs at y1;unfold D2 at y2
  cases hc:Kb (un u) j with
  |true =>
   rw[hc]at y1 y2
   have:=(jH k (C j (by omega)) (D j (by omega)) (B:=2) (T' (Rr k) (uF hc)) (fun z _ _=>qi (v:=0) (by omega)) y1 y2).1
   simp only[if_true];omega
  |false =>
   rw[hc]at y1 y2
   have:=(Afj k (C j (by omega)) (D j (by omega)) y1 y2).1
   simp only[Azb,if_false];omega
|i+1,hi,y,y1,y2=>by
  have:=(jH k (C (j+i+1) (by omega)) (D (j+i+1) (by omega)) (B:=540*(i+1)+2) (D6 (a:=a) (b:=b) (fi:=j) (Rr k) i) (fun z z1 z2=>yn k C D i (by omega) z z1 z2) y1 y2).1
  unfold runF;omega
end
end
end Gx.Uo
namespace Gx.Uo
open Go Go.Proofs
noncomputable section
variable{R:Type}{N:Nat}{X:O R}
structure DOk(u:UnitD)(hh:Int)(H:Nat)(E Q V:List RatD)(a b:Nat->Rat):Prop where
 hv:A8 u hh=true
 h6:H<=6
 pa:∀ h,h<H->Pr E h (a h)
 pb:∀ h,h<H->Pr Q h (b h)
 hV:VOk V (Xw u)
 hP:PB 500 (Xw u)
section
variable{r0 r1 r2 r3 r4 r5 r6:KR R}{u:UnitD}{hh hs:Int}{H:Nat}{E Q V:List RatD}{a b:Nat->Rat}{o o1 o2:Bool}{n0:Nat->Nat}{c0:Nat->LA}
def RI.snoc{j:Nat}{l:Rn}{L:Hy}{W:List RatD}(h:RI u a b j l)(k:VOk W L)(C:PB (540*(l.length+1)+2) L)(D:L=(runF (un u) a b j l.length).2):RI u a b j (l++[(L,W)]):=fun i hi=>by
 by_cases e:i<l.length
 ·rw[Ayj e];exact h i e
 ·have:i=l.length:=by simp at hi;omega
  subst this
  rw[Azy (by omega)]
  simp only[A2p,A08]
  exact⟨k,C,D⟩
def lB(D:DOk u hh H E Q V a b)(Y:fit 1000000 N){j last:Nat}(hj:j<6)(hl:last<H)(n:Nat->Nat)(c:Nat->LA)
  (k:∀ l',RI u a b j l'->last<j+l'.length->l'.length<=7->Avu r0 r1 r2 r3 r4 r5 r6 j (up n j l'.length) (up c j (rc l'))=X):∀(m fuel:Nat)(l:Rn),RI u a b j l->l.length<=7->last+1<=m+(j+l.length)->m<fuel ->
  Ajx (Ct N r0 r1 r2 r3 r4 r5 r6 (last:Int) (rB u hs E Q V o o1 o2 n0 c0) fuel (j:Int) ((j+l.length:Nat):Int)) (up n j l.length) (up c j (rc l))=X
| m,fuel+1,l,hr,h7,hm,hfu=>by
  have h6:=D.h6
  rw[Ato hj]
  by_cases hd:j+l.length<=last
  ·obtain⟨r,er⟩:=Anc (u:=u) (hs:=hs) (E:=E) (Q:=Q) (V:=V) (o:=o) (o1:=o1) (o2:=o2) (n:=n0) (n':=up n j l.length) (c:=c0) (c':=up c j (rc l))
   have hv:A8 (uN u o) hh=true:=D.hv
   have ko:=Rr D.hv
   have key:∀(L:Hy)(W:List RatD),VOk W L->PB (540*(l.length+1)+2) L->L=(runF (un u) a b j l.length).2->Q2 N r0 r1 r2 r3 r4 r5 r6 (last:Int) (rB u hs E Q V o o1 o2 n0 c0) fuel (up n j l.length) (up c j (rc l)) (j:Int) ((j+l.length:Nat):Int) (Ty L W false)=X:=fun L W G C g3=>by
    unfold Q2
    rw[Atn hj,Qk,Qk,Ap8,Ap8,Asm,ct,Asn,show((beq (List.length (Ty L W false)) 2)&&ble 2 2)=true from rfl,ct,show(ble (l.length+1) 140737488355328&&ble ((l.length+1)*48) 140737488355328)=true by
     rw[show ble (l.length+1) 140737488355328=true by rw[Ays];omega,show ble ((l.length+1)*48) 140737488355328=true by rw[Ays];omega];rfl,ct,Ao3,show take 2 (setCells [.nsl,.nsl] 0 (Ty L W false))=Ty L W false from rfl,<-Ao4 l (L,W)]
    cases m with
    |zero=>omega
    |succ m =>
     have:=lB D Y hj hl n c k m fuel (l++[(L,W)]) (hr.snoc G C g3) (by simp;omega) (by simp;omega) (by omega)
     rw[Ax1,List.length_singleton]at this
     rw[wS (by omega)]
     rw[show j+l.length+1=j+(l.length+1) by omega]
     exact this
   rw[decide_eq_true (show((j+l.length:Nat):Int)<=(last:Int) by omega),ct,er,Qk,Qk]
   have hH:j+l.length<H:=by omega
   by_cases hz:l.length=0
   ·rw[decide_eq_false (show ¬ (((j+l.length:Nat):Int)>(j:Int)) by omega),cf,Am8]
    have e0:un (uN u o)=un u:=rfl
    rw[e0]
    have ej:j+l.length=j:=by omega
    cases hc:Kb (un u) j with
    |true =>
     rw[ct]
     refine Acj (by have:=Y.1;omega) (Db hv).2.1 fun W' w1 w2=>?_
     refine Aci hv (T' ko (uF hc)) (B:=2) (fun z _ _=>qi (v:=0) (by omega)) (by omega) (D.pa _ hH) (D.pb _ hH) w1 w2 (by omega) D.hV D.hP Y fun W2 G C=>?_
     rw[show(false||false)=false from rfl,cf,Asl,ct]
     refine key _ _ G ?_ ?_
     ·rw[show 540*(l.length+1)+2=2+540 by omega];exact C
     ·rw[hz];unfold runF;rw[hc];simp only[if_true,Ayq];rfl
    |false =>
     rw[cf]
     refine Ao2 hv (D.pa _ hH) (D.pb _ hH) D.hV D.hP Y fun W2 G C=>?_
     rw[show(false||false)=false from rfl,cf,Asl,ct]
     refine key _ _ G ?_ ?_
     ·exact⟨C.x,fun p hp=>by have:=C.q p hp;omega,C.n⟩
     ·rw[hz];unfold runF;rw[hc];simp only[Azb,if_false,Ayq];rfl
   ·obtain⟨i,hi⟩:∃ i,l.length=i+1:=⟨l.length - 1,by omega⟩
    have e1:wrap .i64 ((wrap .i64 (((j+l.length:Nat):Int) - (j:Int))) - 1)=(i:Int):=by
     rw[Ar (((j+l.length:Nat):Int) - (j:Int)) (by omega),Ar _ (by omega)];omega
    have I:i<l.length:=by omega
    rw[decide_eq_true (show((j+l.length:Nat):Int)>(j:Int) by omega),ct,e1,Aa I,ct,Ax0,Axm,Ack l i I]
    obtain⟨w1,w2,w3⟩:=hr i I
    rw[show ble 2 (List.length (Ty l[i].1 l[i].2 false++rc (l.drop (i+1))))=true from rfl,ct,show take 2 (Ty l[i].1 l[i].2 false++rc (l.drop (i+1)))=Ty l[i].1 l[i].2 false from rfl]
    have st:=D6 (a:=a) (b:=b) (fi:=j) ko i
    rw[<-w3]at st
    refine Aci hv st (B:=540*(i+1)+2) (fun z z1 z2=>yn D.hv (H:=H) (fun h hh=>(D.pa h hh).qm) (fun h hh=>(D.pb h hh).qm) i (by omega) z z1 z2) (by omega) (D.pa _ hH) (D.pb _ hH) w1 w2 (by omega) D.hV D.hP Y fun W2 G C=>?_
    rw[show(false||false)=false from rfl,cf,Asl,ct]
    refine key _ _ G ?_ ?_
    ·rw[show 540*(l.length+1)+2=540*(i+1)+2+540 by omega];exact C
    ·rw[w3,hi];rfl
  ·rw[decide_eq_false (show ¬ ((j+l.length:Nat):Int)<=(last:Int) by omega),cf]
   exact k l hr (by omega) h7
end
end
end Gx.Uo
namespace Gx.Uo
open Go Go.Proofs
noncomputable section
variable{R:Type}{N:Nat}{X:O R}
def Ag6{α:Type}{f:Nat->α}{j:Nat}{v:α}(h:f j=v):f=up f j v:=by
 funext i;unfold up
 cases e:beq i j with
|true=>have:=Axy e;subst this;exact h
|false=>rfl
section
variable{r0 r1 r2 r3 r4 r5 r6:KR R}{u:UnitD}{hh hs:Int}{H:Nat}{E Q V:List RatD}{a b:Nat->Rat}{o o1 o2:Bool}{n:Nat->Nat}{c:Nat->LA}
def Ane(D:DOk u hh H E Q V a b)(G:fit 1000000 N){j last:Nat}(I:j<6)(L:last<H){l:Rn}(hn:n j=l.length)(hc:c j=rc l)(hr:RI u a b j l)(T:l.length<=7)
  (k:∀ C,RI u a b j C->last<j+C.length->C.length<=7->Avu r0 r1 r2 r3 r4 r5 r6 j (up n j C.length) (up c j (rc C))=X):Jx N (j:Int) (last:Int) (rB u hs E Q V o o1 o2 n c) r0 r1 r2 r3 r4 r5 r6=X:=by
 have Y:=D.h6
 have hN:100001000<=N:=by have:=G.1;omega
 rw[Xa]
 have key:Ajx (Ct N r0 r1 r2 r3 r4 r5 r6 (last:Int) (rB u hs E Q V o o1 o2 n c) N (j:Int) (wrap .i64 ((j:Int)+((n j:Nat):Int)))) n c=X:=by
  have:=lB (r0:=r0) (r1:=r1) (r2:=r2) (r3:=r3) (r4:=r4) (r5:=r5) (r6:=r6) (hs:=hs) (o:=o) (o1:=o1) (o2:=o2) (n0:=n) (c0:=c) D G I L n c k 100 N l hr T (by omega) (by omega)
  rw[<-Ag6 hn,<-Ag6 hc]at this
  rw[hn,Ar _ (by omega)]
  rwa [Int.natCast_add]at this
 have:j=0\/j=1\/j=2\/j=3\/j=4\/j=5:=by omega
 rcases this with rfl|rfl|rfl|rfl|rfl|rfl<;>exact key
def Ag7{j i:Nat}(k:j+i<=1000):wrap .i64 (((j+i:Nat):Int) - (j:Int))=(i:Int):=by rw[Ar _ (by omega)];omega
def Atp{j i H:Nat}:decide (((j+i:Nat):Int)<(H:Int) - 1)=decide (j+i+1<H):=by rw[decide_eq_decide];omega
def Ap9{K:Int->Bool->KN R}(D:DOk u hh H E Q V a b)(hf:fit 1000000 N){j i:Nat}(hj:j<6)(hl:j+i<H){l:Rn}(hn:n j=l.length)(hc:c j=rc l)(hr:RI u a b j l)(h7:l.length<=7)
  (k0:Nc (un u) H j i<Bs (un u) j i->∀ k,RI u a b j k->i<k.length->k.length<=7->Ajx (K 0 false) (up n j k.length) (up c j (rc k))=X)
  (T:¬ Nc (un u) H j i<Bs (un u) j i->∀ k,RI u a b j k->i<k.length->k.length<=7->Ajx (K (Qn (un u) a b H j i) true) (up n j k.length) (up c j (rc k))=X):Mh N (j:Int) ((j+i:Nat):Int) (rB u (H:Int) E Q V o o1 o2 n c) K=X:=by
 have h6:=D.h6
 have hf2:fit (200*(540*(i+1)+2+2)+1000) N:=hf.le (show 200*(540*(i+1)+2+2)+1000<=1000000 by omega)
 have hN:100001000<=N:=by have:=hf.1;omega
 have ko:=Rr D.hv
 have hm:=Ce D.hv
 rw[EW];unfold Tj
 refine Ane D hf hj hl hn hc hr h7 fun k G hlen Y=>?_
 have hi:i<k.length:=by omega
 obtain⟨w1,w2,w3⟩:=G i hi
 have st:=D6 (a:=a) (b:=b) (fi:=j) ko i
 rw[<-w3]at st
 have l0:u.min<=Bs (un u) j i:=st.l0
 have l1:=st.l1
 have l2:D2 (un u) j i<=u.max:=st.l2
 have I:=st.up.cv.ne
 suffices h:cond (Ac (wrap .i64 (((j+i:Nat):Int) - (j:Int))) (up n j k.length j)) (cond (ble 2 (((up c j (rc k) j).drop (0+(((wrap .i64 (((j+i:Nat):Int) - (j:Int))).toNat)*2))).length)) (cond ((beq 0 0)&&((beq ((((up c j (rc k) j).drop (0+(((wrap .i64 (((j+i:Nat):Int) - (j:Int))).toNat)*2))).take 2).length) 2)&&(beq 2 2))) (Jy N K ((j+i:Nat):Int) (rB u (H:Int) E Q V o o1 o2 n c) (up n j k.length 0) (up n j k.length 1) (up n j k.length 2) (up n j k.length 3) (up n j k.length 4) (up n j k.length 5) (up n j k.length 6) (((up c j (rc k) j).drop (0+(((wrap .i64 (((j+i:Nat):Int) - (j:Int))).toNat)*2))).take 2) (up c j (rc k) 0) (up c j (rc k) 1) (up c j (rc k) 2) (up c j (rc k) 3) (up c j (rc k) 4) (up c j (rc k) 5) (up c j (rc k) 6)) none) none) none=X by
  have:j=0\/j=1\/j=2\/j=3\/j=4\/j=5:=by omega
  rcases this with rfl|rfl|rfl|rfl|rfl|rfl<;>exact h
 rw[Ag7 (by omega),Qk,Qk,Aa hi,ct,Axm,Ax0,Ack k _ hi,show ble 2 (List.length (Ty k[i].1 k[i].2 false++rc (k.drop (i+1))))=true from rfl,ct,show take 2 (Ty k[i].1 k[i].2 false++rc (k.drop (i+1)))=Ty k[i].1 k[i].2 false from rfl,Asl,ct]
 have k0:=fun e=>k0 e k G hi Y
 have T:=fun e=>T e k G hi Y
 unfold Qn at T
 rw[<-w3]at T
 generalize up n j k.length=n' at *
 generalize up c j (rc k)=c' at *
 generalize k[i].1=L at *
 generalize k[i].2=W at *
 unfold Jy Ti
 rw[Asm,ct,Asn,Anb I w2.n,st.up.lstP]
 rw[show(rB u (H:Int) E Q V o o1 o2 n c).hs=(H:Int)from rfl,show(rB u (H:Int) E Q V o o1 o2 n c).tr=u.stopRamp from rfl,Ar ((H:Int) - 1) (by omega),Le,Atp]
 have q:∀ t:Int,O7 N K (rB u (H:Int) E Q V o o1 o2 n c) (n' 0) (n' 1) (n' 2) (n' 3) (n' 4) (n' 5) (n' 6) (Ty L W false) (c' 0) (c' 1) (c' 2) (c' 3) (c' 4) (c' 5) (c' 6) t=cond (decide (t<Bs (un u) j i)) (Ajx (K 0 false) n' c') (Ajx (K (F4 (E9 0 L) t) true) n' c'):=fun t=>by
  unfold O7
  rw[Asm,ct,Asn,Ana I,st.up.fstP]
  cases decide (t<Bs (un u) j i)with
  |true=>rfl
  |false =>
   rw[cf,cf,ct]
   refine Ev (by omega) (by omega) fun z hz=>?_
   rw[Afg I hz (S:=2) (qi (by omega)) w1 w2 hf2 (by omega),Le];rfl
 have fin:cond (decide (Nc (un u) H j i<Bs (un u) j i)) (Ajx (K 0 false) n' c') (Ajx (K (F4 (E9 0 L) (Nc (un u) H j i)) true) n' c')=X:=by
  by_cases h:Nc (un u) H j i<Bs (un u) j i
  ·rw[decide_eq_true h,ct];exact k0 h
  ·rw[decide_eq_false h,cf];exact T h
 by_cases C:j+i+1<H
 ·rw[decide_eq_true C,ct]
  unfold Nc at fin;rw[if_pos C]at fin
  exact(q _).trans fin
 ·rw[decide_eq_false C,cf]
  unfold Nc at fin;rw[if_neg C]at fin
  exact(q _).trans fin
def rn{j i:Nat}(k:A8 u hh=true)(h:¬ Nc (un u) H j i<Bs (un u) j i):Bs (un u) j i<=Qn (un u) a b H j i/\Qn (un u) a b H j i<=D2 (un u) j i/\(j+i+1<H->Qn (un u) a b H j i<=u.stopRamp):=by
 have st:=D6 (a:=a) (b:=b) (fi:=j) (Rr k) i
 have pk:=(st.up.pk 0).2.1
 have key:∀ p lo hi t tr:Int,lo<=p->p<=hi->(t=if j+i+1<H then F4 hi tr else hi)->¬ t<lo->lo<=F4 p t/\F4 p t<=hi/\(j+i+1<H->F4 p t<=tr):=fun p lo hi t tr G I C L=>by
  split at C
  ·unfold F4 at *;grind
  ·rename_i D
   exact⟨by unfold F4;split<;>omega,by unfold F4;split<;>omega,fun h=>absurd h D⟩
 exact key _ _ _ _ _ pk.1 pk.2 rfl h
def Ajy{K:LA->Bool->Bool->KN R}(D:DOk u hh H E Q V a b)(L:fit 1000000 N){j i:Nat}(hj:j<6)(hl:j+i<H){l:Rn}(hn:n j=l.length)(hc:c j=rc l)(hr:RI u a b j l)(h7:l.length<=7)
  (k0:Nc (un u) H j i<Bs (un u) j i->∀ k,RI u a b j k->i<k.length->k.length<=7->Ajx (K [.bool false,.nsl,.nsl] false false) (up n j k.length) (up c j (rc k))=X)
  (T:¬ Nc (un u) H j i<Bs (un u) j i->∀ k,RI u a b j k->i<k.length->k.length<=7->∀(d:RatD)(f:Bool),d.can ((runF (un u) a b j i).1 (Qn (un u) a b H j i))->Ajx (K d.av f true) (up n j k.length) (up c j (rc k))=X):Na N (j:Int) ((j+i:Nat):Int) (rB u (H:Int) E Q V o o1 o2 n c) K=X:=by
 have h6:=D.h6
 have Y:fit (100*(540*(i+1)+2)+1000) N:=L.le (show 100*(540*(i+1)+2)+1000<=1000000 by omega)
 have hN:100001000<=N:=by have:=L.1;omega
 have hNN:40000000<=N:=by omega
 have ko:=Rr D.hv
 rw[Tx];unfold Qy
 refine Ap9 D L hj hl hn hc hr h7 (fun e k C I G=>k0 e k C I G) (fun e k C hi G=>?_)
 have T:=T e k C hi G
 obtain⟨w1,w2,w3⟩:=C i hi
 have st:=D6 (a:=a) (b:=b) (fi:=j) ko i
 have hx:=rn (a:=a) (b:=b) D.hv e
 rw[<-w3]at st
 suffices h:cond (Ac (wrap .i64 (((j+i:Nat):Int) - (j:Int))) (up n j k.length j)) (cond (ble 2 (((up c j (rc k) j).drop (0+(((wrap .i64 (((j+i:Nat):Int) - (j:Int))).toNat)*2))).length)) (Cp N (((up c j (rc k) j).drop (0+(((wrap .i64 (((j+i:Nat):Int) - (j:Int))).toNat)*2))).take 2) false (Qn (un u) a b H j i) fun t ab=>cond ((beq 0 0)&&((beq t.length 3)&&(beq 3 3))) (cond (ble 3 t.length) (Ajx (K (t.take 3) ab true) (up n j k.length) (up c j (rc k))) none) none) none) none=X by
  have:j=0\/j=1\/j=2\/j=3\/j=4\/j=5:=by omega
  rcases this with rfl|rfl|rfl|rfl|rfl|rfl<;>exact h
 rw[Ag7 (by omega),Qk,Qk,Aa hi,ct,Axm,Ax0,Ack k _ hi,show ble 2 (List.length (Ty k[i].1 k[i].2 false++rc (k.drop (i+1))))=true from rfl,ct,show take 2 (Ty k[i].1 k[i].2 false++rc (k.drop (i+1)))=Ty k[i].1 k[i].2 false from rfl]
 refine Aff w1 w2 st.up.cv (by rw[st.up.fst];exact hx.1) (by rw[st.up.lst];exact hx.2.1) Y hNN fun d f hd=>?_
 rw[c3,ct,b3,ct,Ys]
 exact T d f hd
end
end
end Gx.Uo
namespace Gx.Uo
open Go Go.Proofs
noncomputable section
variable{R:Type}{N:Nat}{X:O R}
def Ag8{V:List RatD}{n:Nat}{d:RatD}(h:n<V.length):setCells (V.flatMap RatD.av) (n*3) d.av=(V.set n d).flatMap RatD.av:=by
 show Dd (V.flatMap RatD.av) (n*3) d.av=_
 unfold Dd
 rw[Amz (by omega)]
 have e:(V.flatMap RatD.av).drop (n*3+d.av.length)=(V.drop (n+1)).flatMap RatD.av:=by
  have:=CO h
  rw[Axm]at this
  rw[show n*3+d.av.length=n*3+3 from rfl,<-A3z,this];rfl
 rw[e,List.set_eq_take_append_cons_drop,if_pos h,A0d,Aye,Azz]
def vr{K:Nat->Nat->Nat->LA->LA->LA->O R}{H:Nat}(hH:H<=1000)(hN:1000<=N)(k:∀ En Re:List RatD,En.length=H->Re.length=H->(∀ d∈En,d.can 0)->(∀ d∈Re,d.can 0)->K H H H (Aj (replicate H 0)) (En.flatMap RatD.av) (Re.flatMap RatD.av)=X):∀(m t fuel:Nat)(En Re:List RatD),t+m=H->m<fuel->En.length=t->Re.length=t->(∀ d∈En,d.can 0)->(∀ d∈Re,d.can 0) ->
  Qz N K (H:Int) fuel (t:Int) t t t (Aj (replicate t 0)) (En.flatMap RatD.av) (Re.flatMap RatD.av)=X
|0,t,fuel+1,En,Re,I,_,e1,C,c1,D=>by
  rw[Qz];unfold EX
  have:t=H:=by omega
  subst this
  rw[Ki (by omega),cf]
  exact k En Re e1 C c1 D
| m+1,t,fuel+1,En,Re,I,L,e1,C,c1,D=>by
  rw[Qz];unfold EX
  have T:(ble (t+1) 140737488355328&&ble ((t+1)*8) 140737488355328)=true:=by
   rw[show ble (t+1) 140737488355328=true by rw[Ays];omega,show ble ((t+1)*8) 140737488355328=true by rw[Ays];omega];rfl
  have Y:(ble (t+1) 140737488355328&&ble ((t+1)*56) 140737488355328)=true:=by
   rw[show ble (t+1) 140737488355328=true by rw[Ays];omega,show ble ((t+1)*56) 140737488355328=true by rw[Ays];omega];rfl
  rw[Jo (by omega),ct,T,ct]
  refine Ev (by omega) (by omega) fun x hx=>?_
  rw[show((beq (List.length x.av) 3)&&(ble 3 3))=true from rfl,ct,Y,ct]
  refine Ev (by omega) (by omega) fun y hy=>?_
  rw[show((beq (List.length y.av) 3)&&(ble 3 3))=true from rfl,ct,ct,wS (by omega)]
  have s1:(Aj (replicate t 0)).take (t*1)++[A6r]=Aj (replicate (t+1) 0):=by
   rw[Axl (by rw[Lz];simp),A34];unfold Aj;simp
  have s2:(En.flatMap RatD.av).take (t*3)++take 3 (setCells [.bool false,.nsl,.nsl] 0 x.av)=(En++[x]).flatMap RatD.av:=by
   rw[Axl (by rw[Xb,e1];omega),A0d];simp;rfl
  have s3:(Re.flatMap RatD.av).take (t*3)++take 3 (setCells [.bool false,.nsl,.nsl] 0 y.av)=(Re++[y]).flatMap RatD.av:=by
   rw[Axl (by rw[Xb,C];omega),A0d];simp;rfl
  rw[s1,s2,s3]
  refine vr hH hN k m (t+1) fuel (En++[x]) (Re++[y]) (by omega) (by omega) (by simp[e1]) (by simp[C]) (fun d G=>?_) (fun d G=>?_)
  ·rcases Axz.1 G with h|h
   ·exact c1 d h
   ·simp at h;subst h;exact hx
  ·rcases Axz.1 G with h|h
   ·exact D d h
   ·simp at h;subst h;exact hy
def Arp{K:Nat->Nat->Nat->LA->LA->LA->O R}{H:Nat}(hH:H<=1000)(hN:2000<=N)(k:∀ En Re:List RatD,En.length=H->Re.length=H->(∀ d∈En,d.can 0)->(∀ d∈Re,d.can 0)->K H H H (Aj (replicate H 0)) (En.flatMap RatD.av) (Re.flatMap RatD.av)=X):fE N (H:Int) K=X:=by
 rw[kv];unfold fD
 exact vr hH (by omega) k H 0 N [] [] (by omega) (by omega) rfl rfl (by simp) (by simp)
abbrev Aul(R:Type):=Nat->Nat->Nat->Nat->Nat->Nat->Nat->LA->LA->LA->LA->LA->LA->LA->LA->LA->LA->Option R
def Avv(k:Aul R)(n:Nat->Nat)(c:Nat->LA)(A B C:LA):O R:=k (n 0) (n 1) (n 2) (n 3) (n 4) (n 5) (n 6) A B C (c 0) (c 1) (c 2) (c 3) (c 4) (c 5) (c 6)
section
variable{r0:Aul R}{s:RB}{px py pz:Nat}{aa ab ad:LA}
def Arq(N:Nat)(r0:Aul R)(s:RB)(px py pz:Nat)(aa ab ad:LA)(fuel:Nat)(n:Nat->Nat)(c:Nat->LA)(j x w y z:Int)(A B C:LA):O R:=Im N (Cx N r0 s (n 0) (n 1) (n 2) (n 3) (n 4) (n 5) (n 6) px py pz (c 0) (c 1) (c 2) (c 3) (c 4) (c 5) (c 6) aa ab ad fuel) r0 s (n 0) (n 1) (n 2) (n 3) (n 4) (n 5) (n 6) px py pz (c 0) (c 1) (c 2) (c 3) (c 4) (c 5) (c 6) aa ab ad j x w y z A B C
def Anf{j fuel:Nat}(k:j<6){x w:Int}{n:Nat->Nat}{c:Nat->LA}{A B C:LA}:Cx N r0 s (n 0) (n 1) (n 2) (n 3) (n 4) (n 5) (n 6) px py pz (c 0) (c 1) (c 2) (c 3) (c 4) (c 5) (c 6) aa ab ad (fuel+1) (j:Int) x w A B C =
  cond (decide (w>=(j:Int))) (cond (decide (w>(j:Int))) (cond (Ac (wrap .i64 ((wrap .i64 (w - (j:Int))) - 1)) (n j)) (cond (ble 2 (((c j).drop (0+(((wrap .i64 ((wrap .i64 (w - (j:Int))) - 1)).toNat)*2))).length)) (Bw N (fz s n c) true w (((c j).drop (0+(((wrap .i64 ((wrap .i64 (w - (j:Int))) - 1)).toNat)*2))).take 2) false fun ba bb=>cond (bb||false) none (Be N (fz s n c) true ba false x fun bc bd=>Arq N r0 s px py pz aa ab ad fuel n c (j:Int) x w bc bd A B C)) none) none)
   (Di N (fz s n c) true (j:Int) fun cf=>cond cf (Fl N (fz s n c) true fun cg=>Bw N (fz s n c) true w cg false fun ch ci=>cond (ci||false) none (Be N (fz s n c) true ch false x fun cj ck=>Arq N r0 s px py pz aa ab ad fuel n c (j:Int) x w cj ck A B C)) (Gj N (fz s n c) true w fun cl=>Sw N cl false fun cm=>cond (decide (cm>0)) (Arq N r0 s px py pz aa ab ad fuel n c (j:Int) x w 0 (Ca s.rs (wrap .i64 (s.sr - x))) A B C) (Arq N r0 s px py pz aa ab ad fuel n c (j:Int) x w 0 0 A B C))))
   (Avv r0 n c A B C):=by
 have:j=0\/j=1\/j=2\/j=3\/j=4\/j=5:=by omega
 rcases this with rfl|rfl|rfl|rfl|rfl|rfl<;>rfl
structure At(St:List Int)(En Re:List RatD)(h:Nat)(k:Int)(p r:Rat):Prop where
 st:St[h]?=some k
 en:∃ d,En[h]?=some d/\d.can p
 re:∃ d,Re[h]?=some d/\d.can r
def Same(j i:Nat)(St St':List Int)(En En' Re Re':List RatD):Prop:=∀ h,¬ (j<=h/\h<=j+i)->St'[h]?=St[h]?/\En'[h]?=En[h]?/\Re'[h]?=Re[h]?
def Atq{j h H fuel:Nat}{x y z:Int}{n:Nat->Nat}{c:Nat->LA}{St:List Int}{En Re:List RatD}(G:-10000000<=x/\x<=10000000)(I:-10000000<=z/\z<=10000000)(hN:4<=N)(L:St.length=H)(T:En.length=H)(Y:Re.length=H)(hh:h<H)(hH:H<=1000)
  (k:∀ d e:RatD,d.can (x:Rat)->e.can (z:Rat)->Cx N r0 s (n 0) (n 1) (n 2) (n 3) (n 4) (n 5) (n 6) H H H (c 0) (c 1) (c 2) (c 3) (c 4) (c 5) (c 6) aa ab ad fuel (j:Int) y ((h:Int) - 1) (Aj (St.set h 2)) ((En.set h d).flatMap RatD.av) ((Re.set h e).flatMap RatD.av)=X):Arq N r0 s H H H aa ab ad fuel n c (j:Int) x (h:Int) y z (Aj St) (En.flatMap RatD.av) (Re.flatMap RatD.av)=X:=by
 unfold Arq Im
 rw[Aa hh,ct,Axm,Ax0,Ax4,Lz,show((beq 1 1)&&((ble (h+1) St.length)&&(!false)))=true by rw[show ble (h+1) St.length=true by rw[Ays];omega];rfl,ct]
 refine Ev (by omega) hN fun d C=>?_
 refine Ev (by omega) hN fun e D=>?_
 rw[ct,Xb,Xb,Ax0,show((beq (List.length d.av) 3)&&((ble (h*3+3) (En.length*3))&&(!false)))=true by rw[show ble (h*3+3) (En.length*3)=true by rw[Ays];omega];rfl,ct,ct,show((beq (List.length e.av) 3)&&((ble (h*3+3) (Re.length*3))&&(!false)))=true by rw[show ble (h*3+3) (Re.length*3)=true by rw[Ays];omega];rfl,ct,Ag8 (by omega),Ag8 (by omega),Ar _ (by omega),show(Aj St).set h (.int .i64 2)=Aj (St.set h 2) by unfold Aj;rw[A11]]
 exact k d e C D
end
end
end Gx.Uo
namespace Gx.Uo
open Go Go.Proofs
noncomputable section
variable{R:Type}{N:Nat}{X:O R}
section
variable{r0:Aul R}{aa ab ad:LA}{u:UnitD}{hh:Int}{H:Nat}{E Q V:List RatD}{a b:Nat->Rat}{o o1 o2:Bool}{n n0:Nat->Nat}{c c0:Nat->LA}
def Same.set{j i h:Nat}{St St':List Int}{En En' Re Re':List RatD}{v:Int}{d e:RatD}(s:Same j i (St.set h v) St' (En.set h d) En' (Re.set h e) Re')(hh:h=j+i+1):Same j (i+1) St St' En En' Re Re':=fun t k=>by
 have:=s t (by omega)
 have ne:h≠t:=by omega
 rw[Ayg ne,Ayg ne,Ayg ne]at this
 exact this
def vu(D:DOk u hh H E Q V a b)(I:fit 1000000 N){j:Nat}(hj:j<6){l:Rn}(hr:RI u a b j l)(hn:n j=l.length)(hc:c j=rc l):∀ i,i<l.length->j+i<H->∀(x:Int)(St:List Int)(En Re:List RatD)(fuel:Nat),Bs (un u) j i<=x->x<=D2 (un u) j i->St.length=H->En.length=H->Re.length=H->i+1<fuel ->
  (∀(St':List Int)(En' Re':List RatD),St'.length=H->En'.length=H->Re'.length=H->Same j i St St' En En' Re Re'->(∀ t,t<=i->At St' En' Re' (j+t) 2 (fP (un u) a b j i x t) (fR (un u) a b j i x t))->Avv r0 n c (Aj St') (En'.flatMap RatD.av) (Re'.flatMap RatD.av)=X) ->
  Cx N r0 (rB u (H:Int) E Q V o o1 o2 n0 c0) (n 0) (n 1) (n 2) (n 3) (n 4) (n 5) (n 6) H H H (c 0) (c 1) (c 2) (c 3) (c 4) (c 5) (c 6) aa ab ad fuel (j:Int) x ((j+i:Nat):Int) (Aj St) (En.flatMap RatD.av) (Re.flatMap RatD.av)=X
| 0,hi,hH,x,St,En,Re,fuel+1,x1,x2,e1,e2,e3,hfu,k=>by
  have h6:=D.h6
  have ko:=Rr D.hv
  have hv:A8 (uN u o) hh=true:=D.hv
  have hR:=(Db hv).2.1
  have hN:100001000<=N:=by have:=I.1;omega
  have hm:=Ce D.hv
  obtain⟨r,er⟩:=Anc (u:=u) (hs:=(H:Int)) (E:=E) (Q:=Q) (V:=V) (o:=o) (o1:=o1) (o2:=o2) (n:=n0) (n':=n) (c:=c0) (c':=c)
  obtain⟨f2,rfl⟩:∃ f2,fuel=f2+1:=⟨fuel - 1,by omega⟩
  have fin:∀(y z:Int),-10000000<=z/\z<=10000000->z=fR (un u) a b j 0 x 0->Arq N r0 (rB u (H:Int) E Q V o o1 o2 n0 c0) H H H aa ab ad (f2+1) n c (j:Int) x (j:Int) y z (Aj St) (En.flatMap RatD.av) (Re.flatMap RatD.av)=X:=fun y z zb ze=>by
   have st:=D6 (a:=a) (b:=b) (fi:=j) ko 0
   have l0:u.min<=Bs (un u) j 0:=st.l0
   have l2:D2 (un u) j 0<=u.max:=st.l2
   refine Atq (by omega) zb (by omega) e1 e2 e3 (by omega) (by omega) fun d e hd he=>?_
   rw[Anf hj,decide_eq_false (show ¬ ((j:Int) - 1>=(j:Int)) by omega),cf]
   refine k _ _ _ (by simp[e1]) (by simp[e2]) (by simp[e3]) (fun h hh=>?_) fun t ht=>?_
   ·have ne:j≠h:=by omega
    rw[Ayg ne,Ayg ne,Ayg ne]
    exact⟨rfl,rfl,rfl⟩
   ·have:t=0:=by omega
    subst this
    rw[Ayq]
    refine⟨Ayo (by omega),⟨d,Ayo (by omega),hd⟩,⟨e,Ayo (by omega),?_⟩⟩
    rw[<-ze];exact he
  rw[Anf hj,Ayq,decide_eq_true (show(j:Int)>=(j:Int) by omega),ct,decide_eq_false (show ¬ (j:Int)>(j:Int) by omega),cf,er,Am8,show un (uN u o)=un u from rfl]
  unfold Bs at x1;unfold D2 at x2
  cases C:Kb (un u) j with
  |true =>
   rw[C]at x1 x2
   rw[ct]
   refine Acj (by omega) hR fun W w1 w2=>?_
   refine Afi hR (D.pb j (by omega)) (by show 0<1;omega) w1 w2 (by omega) I fun w G=>?_
   rw[show((false||false)||false)=false from rfl,cf]
   obtain⟨_,xr,_,cr⟩:=jH D.hv (a:=a j) (b:=b j) (D.pa j (by omega)).qm (D.pb j (by omega)).qm (T' ko (uF C)) (B:=2) (fun z _ _=>qi (v:=0) (by omega)) x1 x2
   rw[show un (uN u o)=un u from rfl]at G ⊢
   have hq:=Xc (Db D.hv).2.1 (D.pb j (by omega)).qm
   have w2':PB 2 (oL (un u)):=w2
   rw[rm (L:=oL (un u)) hR G hq (by show 0<1;omega) w2' (by omega) (I.le (by omega))]
   exact fin _ _ cr (by show bJ (un u) (oL (un u)) (Az (un u) (b j)) x=if Kb (un u) j=true then bJ (un u) (oL (un u)) (Az (un u) (b j)) x else _;rw[if_pos C])
  | false =>
   rw[C]at x1 x2
   rw[cf]
   refine yk hR (D.pb j (by omega)) (I.le (by omega)) fun w G=>?_
   rw[show un (uN u o)=un u from rfl]at G
   have hq:=Xc (Db D.hv).2.1 (D.pb j (by omega)).qm
   rw[I8 G.ok (I.le (by rw[G.m];omega)),G.q,Ag4]
   have sr:=ko.sr0
   have sr:u.min<=u.startRamp/\u.startRamp<=u.max:=sr
   have x1:u.min<=x:=x1
   have x2:x<=u.startRamp:=x2
   have hrs:=(Db D.hv).2.1.2.2.2.2.1
   have eR:zM (un u) (Az (un u) (b j)) x=fR (un u) a b j 0 x 0:=by
    show _=if Kb (un u) j=true then _ else zM (un u) (Az (un u) (b j)) x
    rw[if_neg (by rw[C];simp)]
   by_cases hp:0<Az (un u) (b j)
   ·rw[decide_eq_true hp,ct,show(rB u (H:Int) E Q V o o1 o2 n0 c0).rs=u.reserve from rfl,show(rB u (H:Int) E Q V o o1 o2 n0 c0).sr=u.startRamp from rfl,Ar _ (by omega),Le]
    refine fin _ _ (by unfold F4;split<;>omega) ?_
    rw[<-eR];unfold zM;rw[if_pos hp];rfl
   ·rw[decide_eq_false hp,cf]
    refine fin _ _ (by omega) ?_
    rw[<-eR];unfold zM;rw[if_neg hp]
| i+1,hi,hH,x,St,En,Re,fuel+1,x1,x2,e1,e2,e3,hfu,k=>by
  have h6:=D.h6
  have ko:=Rr D.hv
  have hv:A8 (uN u o) hh=true:=D.hv
  have hR:=(Db hv).2.1
  have hN:100001000<=N:=by have:=I.1;omega
  have hm:=Ce D.hv
  obtain⟨r,er⟩:=Anc (u:=u) (hs:=(H:Int)) (E:=E) (Q:=Q) (V:=V) (o:=o) (o1:=o1) (o2:=o2) (n:=n0) (n':=n) (c:=c0) (c':=c)
  have Y:i<l.length:=by omega
  obtain⟨w1,w2,w3⟩:=hr i Y
  have st:=D6 (a:=a) (b:=b) (fi:=j) ko i
  rw[<-w3]at st
  have q:=jH D.hv (a:=a (j+i+1)) (b:=b (j+i+1)) (D.pa _ (by omega)).qm (D.pb _ (by omega)).qm st (B:=540*(i+1)+2) (fun z z1 z2=>yn D.hv (H:=H) (fun h hh=>(D.pa h hh).qm) (fun h hh=>(D.pb h hh).qm) i (by omega) z z1 z2) x1 x2
  obtain⟨_,xr,_,cr⟩:=q
  have bk:=GH ko (a:=a (j+i+1)) (b:=b (j+i+1)) st x1 x2
  have ej:wrap .i64 ((wrap .i64 (((j+(i+1):Nat):Int) - (j:Int))) - 1)=(i:Int):=by
   rw[Ar (((j+(i+1):Nat):Int) - (j:Int)) (by omega),Ar _ (by omega)];omega
  rw[Anf hj,decide_eq_true (show((j+(i+1):Nat):Int)>=(j:Int) by omega),ct,decide_eq_true (show((j+(i+1):Nat):Int)>(j:Int) by omega),ct,ej,hn,hc,Aa Y,ct,Ax0,Axm,Ack l i Y,er]
  rw[show ble 2 (List.length (Ty l[i].1 l[i].2 false++rc (l.drop (i+1))))=true from rfl,ct,show take 2 (Ty l[i].1 l[i].2 false++rc (l.drop (i+1)))=Ty l[i].1 l[i].2 false from rfl]
  refine Afi hR (D.pb (j+(i+1)) (by omega)) st.up.cv.ne w1 w2 (by omega) I fun w G=>?_
  rw[show((false||false)||false)=false from rfl,cf]
  rw[show un (uN u o)=un u from rfl]at G ⊢
  have hq:=Xc (Db D.hv).2.1 (D.pb (j+(i+1)) (by omega)).qm
  rw[rm hR G hq st.up.cv.ne w2 (by omega) (I.le (by omega)),show un (uN u o)=un u from rfl]
  refine Atq (by omega) cr (by omega) e1 e2 e3 (by omega) (by omega) fun d e hd he=>?_
  rw[show((j+(i+1):Nat):Int) - 1=((j+i:Nat):Int) by omega]
  refine vu D I hj hr hn hc i Y (by omega) _ _ _ _ fuel bk.1.1 bk.1.2 (by simp[e1]) (by simp[e2]) (by simp[e3]) (by omega) fun St' En' Re' l1 l2 l3 hs hA=>?_
  refine k St' En' Re' l1 l2 l3 (hs.set (by omega)) fun t ht=>?_
  have eP:fP (un u) a b j (i+1) x t=if t=i+1 then x else fP (un u) a b j i (fk (un u) l[i].1 (Az (un u) (b (j+(i+1)))) x) t:=by rw[w3];rfl
  have eR:fR (un u) a b j (i+1) x t=if t=i+1 then bJ (un u) l[i].1 (Az (un u) (b (j+(i+1)))) x else fR (un u) a b j i (fk (un u) l[i].1 (Az (un u) (b (j+(i+1)))) x) t:=by rw[w3];rfl
  rw[eP,eR]
  by_cases h:t=i+1
  ·rw[if_pos h,if_pos h]
   subst h
   have:=hs (j+(i+1)) (by omega)
   rw[Ayo (by omega),Ayo (by omega),Ayo (by omega)]at this
   exact⟨this.1,⟨d,this.2.1,hd⟩,⟨e,this.2.2,he⟩⟩
  ·rw[if_neg h,if_neg h]
   exact hA t (by omega)
def Arr(D:DOk u hh H E Q V a b)(G:fit 1000000 N){j i:Nat}(L:j<6)(T:j+i<H){l:Rn}(hn:n j=l.length)(hc:c j=rc l)(hr:RI u a b j l)(h7:l.length<=7)(C:¬ Nc (un u) H j i<Bs (un u) j i){St:List Int}{En Re:List RatD}(e1:St.length=H)(e2:En.length=H)(e3:Re.length=H)
  (k:∀(St':List Int)(En' Re':List RatD) n' c',St'.length=H->En'.length=H->Re'.length=H->Same j i St St' En En' Re Re'->(∀ t,t<=i->At St' En' Re' (j+t) 2 (fP (un u) a b j i (Qn (un u) a b H j i) t) (fR (un u) a b j i (Qn (un u) a b H j i) t))->Avv r0 n' c' (Aj St') (En'.flatMap RatD.av) (Re'.flatMap RatD.av)=X) :
  N7 N (j:Int) ((j+i:Nat):Int) H H H (Aj St) (En.flatMap RatD.av) (Re.flatMap RatD.av) (rB u (H:Int) E Q V o o1 o2 n c) r0=X:=by
 have h6:=D.h6
 have hN:100001000<=N:=by have:=G.1;omega
 rw[CL];unfold Qj
 refine Ap9 D G L T hn hc hr h7 (fun e=>absurd e C) fun _ l' I hi h7'=>?_
 have Y:=rn (a:=a) (b:=b) D.hv C
 exact vu D G L I Qk Qk i hi T _ St En Re N Y.1 Y.2.1 e1 e2 e3 (by omega) fun St' En' Re' l1 l2 l3 hs hA=>k St' En' Re' _ _ l1 l2 l3 hs hA
end
end
end Gx.Uo
namespace Gx.Uo
open Go Go.Proofs
noncomputable section
variable{R:Type}{N:Nat}{X:O R}
def ro(u:UnitD)(hs fi la:Int)(nE nQ:Nat):Int:=if A8 u hs=false then 1 else if (nE:Int)≠hs\/(nQ:Int)≠hs then 4 else if fi<0\/la<fi\/hs<=la then 3 else if Nc (un u) hs.toNat fi.toNat (la - fi).toNat<Bs (un u) fi.toNat (la - fi).toNat then 7 else 0
def Ars:LA:=[.nsl,.nsl,.nsl]
def jI(St:List Int)(En Re:List RatD):LA:=[.imm (Aj St) St.length 1 false false,.imm (En.flatMap RatD.av) En.length 3 false false,.imm (Re.flatMap RatD.av) Re.length 3 false false]
structure Disp(St:List Int)(En Re:List RatD)(H j i:Nat)(p r:Nat->Int):Prop where
 l1:St.length=H
 l2:En.length=H
 l3:Re.length=H
 off:∀ h,h<H->¬ (j<=h/\h<=j+i)->At St En Re h 0 0 0
 on:∀ t,t<=i->At St En Re (j+t) 2 (p t) (r t)
variable{u:UnitD}{hs fi la:Int}{E Q:List RatD}{a b:Nat->Rat}{g b1 b2 b3 b4:Bool}
def Art{K:Lu->Int->Int->Int->LA->Nat->Int->Int->Int->Int->Int->Int->Int->Int->Int->Int->Int->Int->Int->LA->Nat->Int->Int->Int->LA->Nat->Bool->LA->Nat->Bool->LA->LA->LA->LA->LA->LA->LA->O R}{c:Int}{d h:LA}{e i:Nat}{f g' j l:Bool}(C:Are u.segs.l)(D:u.segs.l.length<=8)(G:-1048576<=u.min/\u.min<=1048576)(I:fit (100*500+1000) N)
  (k:∀ V,VOk V (Xw u)->PB 500 (Xw u)->K u.name u.bus u.min u.max (u.segs.l.flatMap SegD.av) u.segs.l.length u.noLoad u.rampUp u.rampDown u.startRamp u.stopRamp u.upTime u.downTime u.startTime u.hotCost u.coldCost u.hotHours u.reserve u.reservePrice (Aj u.away.l) u.away.l.length u.state u.hours u.output (Aj (F3 (Xw u))) (Xw u).length false (V.flatMap RatD.av) (Xw u).length false [] [] [] [] [] [] []=X) :
  Zl N u.av g c d e f g' h i j l K=X:=by
 rw[IG];unfold F_
 rw[show ∀ F:Lu->O R,ue u.av F=F u.name from fun _=>rfl,show ∀ F:Int->O R,Aq .i64 (u.av.drop 1) F=F u.bus from fun _=>Av,u2,u3,u4,u5,u6,u7,u8,u9,Awa,Awb,Avc,Awc,Awd,Awe,Asg,Avd,Awg,Aq6,Awf,Ash,show beq (List.length u.av) 22=true from rfl,ct]
 have e1:([.str u.name,.int .i64 u.bus,.int .i64 u.min,.int .i64 u.max,.imm (u.segs.l.flatMap SegD.av) u.segs.l.length 2 false g,.int .i64 u.noLoad,.int .i64 u.rampUp,.int .i64 u.rampDown,.int .i64 u.startRamp,.int .i64 u.stopRamp,.int .i64 u.upTime,.int .i64 u.downTime,.int .i64 u.startTime,.int .i64 u.hotCost,.int .i64 u.coldCost,.int .i64 u.hotHours,.int .i64 u.reserve,.int .i64 u.reservePrice,.imm (Aj u.away.l) u.away.l.length 1 false g,.int .i64 u.state,.int .i64 u.hours,.int .i64 u.output]:LA)=(uN u g).av:=by
  rw[<-Fm];rfl
 rw[e1]
 refine As9 (u:=uN u g) (M:=500) C D G (by omega) I fun V hV hP=>?_
 rw[yi,Am3]
 rw[show((beq (List.length (Ty (Xw (uN u g)) V false)) 2)&&(true&&(beq 2 2&&ble 27 51)))=true from rfl,ct]
 exact k V hV hP
def Atr(h:A8 u hs=false){nE nQ:Nat}:ro u hs fi la nE nQ=1:=by unfold ro;rw[if_pos h]
def Aqa(h:A8 u hs=true){nE nQ:Nat}(k:(nE:Int)≠hs\/(nQ:Int)≠hs):ro u hs fi la nE nQ=4:=by unfold ro;rw[if_neg (by rw[h];simp),if_pos k]
def Ats(h:A8 u hs=true){nE nQ:Nat}(k:(nE:Int)=hs)(C:(nQ:Int)=hs)(D:fi<0\/la<fi\/hs<=la):ro u hs fi la nE nQ=3:=by unfold ro;rw[if_neg (by rw[h];simp),if_neg (by rw[k,C];simp),if_pos D]
def Aqb(h:A8 u hs=true){nE nQ:Nat}(k:(nE:Int)=hs)(C:(nQ:Int)=hs)(D:¬ (fi<0\/la<fi\/hs<=la)):ro u hs fi la nE nQ=if Nc (un u) hs.toNat fi.toNat (la - fi).toNat<Bs (un u) fi.toNat (la - fi).toNat then 7 else 0:=by unfold ro;rw[if_neg (by rw[h];simp),if_neg (by rw[k,C];simp),if_neg D]
def Att{K:LA->LA->Int->O R}(hal:u.away.l.length<=1000)(h6:A8 u hs=true->hs<=6)(pa:∀ h,h<E.length->Pr E h (a h))(pb:∀ h,h<Q.length->Pr Q h (b h))(G:fit 1000000 N)
  (k0:∀ e,ro u hs fi la E.length Q.length=e->e≠0->K Ars Ajl.av e=X)
  (k1:ro u hs fi la E.length Q.length=0->∀(St:List Int)(En Re:List RatD)(d:RatD),Disp St En Re hs.toNat fi.toNat (la - fi).toNat (fP (un u) a b fi.toNat (la - fi).toNat (Qn (un u) a b hs.toNat fi.toNat (la - fi).toNat)) (fR (un u) a b fi.toNat (la - fi).toNat (Qn (un u) a b hs.toNat fi.toNat (la - fi).toNat))->d.can ((runF (un u) a b fi.toNat (la - fi).toNat).1 (Qn (un u) a b hs.toNat fi.toNat (la - fi).toNat))->K (jI St En Re) d.av 0=X) :
  rN N u.av g hs fi la (E.flatMap RatD.av) E.length b1 b2 (Q.flatMap RatD.av) Q.length b3 b4 K=X:=by
 have hN:100001000<=N:=by have:=G.1;omega
 rw[rO];unfold n6
 rw[fG,ct,MT,th (by omega) (by omega) (by omega)]
 cases k:A8 u hs with
|false=>rw[show(!false)=true from rfl,ct];exact k0 1 (Atr k) (by omega)
| true =>
  rw[show(!true)=false from rfl,cf]
  have h6:=h6 k
  by_cases hE:(E.length:Int)=hs
  ·rw[show(((E.length:Int) != hs)==false)=true by rw[hE];simp,ct]
   by_cases hQ:(Q.length:Int)=hs
   ·rw[show(cond false true ((Q.length:Int) != hs))=false by rw[hQ];simp,cf]
    have r3:(fi<0\/la<fi\/hs<=la)->K Ars Ajl.av 3=X:=fun h=>k0 3 (Ats k hE hQ h) (by omega)
    unfold VF aO
    by_cases c1:fi<0
    ·rw[decide_eq_true c1,show(true==false)=false from rfl,cf];exact r3 (.inl c1)
    rw[decide_eq_false c1,show(false==false)=true from rfl,ct]
    by_cases I:fi>la
    ·rw[decide_eq_true I,show((cond false true true)==false)=false from rfl,cf];exact r3 (.inr (.inl I))
    rw[decide_eq_false I,show((cond false true false)==false)=true from rfl,ct]
    by_cases c3:la>=hs
    ·rw[decide_eq_true c3,show(cond false true true)=true from rfl,ct];exact r3 (.inr (.inr c3))
    rw[decide_eq_false c3,show(cond false true false)=false from rfl,cf]
    have e0:=Aqb (fi:=fi) (la:=la) k hE hQ (by omega)
    have hH:hs=(hs.toNat:Int):=by omega
    have L:fi=(fi.toNat:Int):=by omega
    have T:la=((fi.toNat+(la - fi).toNat:Nat):Int):=by omega
    have h1:E.length=hs.toNat:=by omega
    have h2:Q.length=hs.toNat:=by omega
    generalize hs.toNat=H at *
    generalize fi.toNat=j at *
    generalize (la - fi).toNat=i at *
    have hm:=Ce k
    have Y:=Ja k
    unfold ig
    rw[fG,ct,MT]
    refine Art (IR k) Y.1 (by omega) (G.le (by omega)) fun V hV hP=>?_
    have D:DOk u hs H E Q V a b:=⟨k,by omega,fun h hh=>pa h (by omega),fun h hh=>pb h (by omega),hV,hP⟩
    have hr0:RI u a b j []:=fun i h=>by simp at h
    subst hH L T
    rw[<-Fm u.away.l]
    refine Ajy (u:=u) (V:=V) (o:=g) (o1:=b2) (o2:=b4) (n:=fun _=>0) (c:=fun _=>[]) D G (by omega) (by omega) rfl rfl hr0 (by simp) (fun C l' _ _ _=>?_) (fun C l' hr' hi' h7' d f hd=>?_)
    ·show cond ((beq 0 0)&&((beq (List.length Ajl.av) 3)&&(beq 3 3))) _ none=X
     rw[Gx.c3,ct,show(!false)=true from rfl,ct]
     exact k0 7 (by rw[e0,if_pos C]) (by omega)
    ·show cond ((beq 0 0)&&((beq (List.length d.av) 3)&&(beq 3 3))) _ none=X
     rw[Gx.c3,ct,show(!true)=false from rfl,cf]
     refine Arp (by omega) (by omega) fun En Re g1 g2 g3 g4=>?_
     have qd:fit (4*d.m+10) N:=by
      have q:=yn (a:=a) (b:=b) (j:=j) (H:=H) k (fun h hh=>(D.pa h hh).qm) (fun h hh=>(D.pb h hh).qm) i (by omega) _ (rn (a:=a) (b:=b) k C).1 (rn (a:=a) (b:=b) k C).2.1
      rw[hd.m]
      exact G.le (by omega)
     refine Arr (u:=u) (V:=V) (o:=g) (o1:=b2) (o2:=b4) (n:=up (fun _=>0) j l'.length) (c:=up (fun _=>[]) j (rc l')) D G (by omega) (by omega) Qk Qk hr' h7' C (by simp) g1 g2 fun St' En' Re' n' c' l1 l2 l3 hs hA=>?_
     show cond (ble 3 (List.length d.av)) (Zb N (take 3 d.av) f _) none=X
     rw[Gx.b3,ct,Ys]
     obtain⟨d',d1,d2⟩:=CN (R:=R) (N:=N) (o:=f) hd.ok qd
     rw[d2,Gx.c3,ct,Gx.b3,ct,Ys]
     have t1:(Aj St').take (H*1)=Aj St':=Axl (by rw[Lz];omega)
     have t2:(En'.flatMap RatD.av).take (H*3)=En'.flatMap RatD.av:=Axl (by rw[Xb];omega)
     have t3:(Re'.flatMap RatD.av).take (H*3)=Re'.flatMap RatD.av:=Axl (by rw[Xb];omega)
     rw[t1,t2,t3]
     rw[hd.q]at d1
     have:=k1 (by rw[e0,if_neg C]) St' En' Re' d' ⟨l1,l2,l3,fun h hh hn=>?_,hA⟩ d1
     ·unfold jI at this;rw[l1,l2,l3]at this;exact this
     ·have:=hs h hn
      refine⟨?_,?_,?_⟩
      ·rw[this.1,List.getElem?_replicate,if_pos hh]
      ·rw[this.2.1,Axn (by omega)]
       exact⟨_,rfl,g3 _ (Axv _)⟩
      ·rw[this.2.2,Axn (by omega)]
       exact⟨_,rfl,g4 _ (Axv _)⟩
   ·rw[show(cond false true ((Q.length:Int) != hs))=true by simp[hQ],ct]
    exact k0 4 (Aqa k (.inr hQ)) (by omega)
  ·rw[show(((E.length:Int) != hs)==false)=false by simp[hE],cf]
   exact k0 4 (Aqa k (.inl hE)) (by omega)
end
end Gx.Uo
namespace Gx.Uo
open Go Go.Proofs
noncomputable section
variable{R:Type}{N:Nat}{X:O R}
section
variable(hs fi la:Int)(b:LA)(F:O R)(Ex:Nat->Nat->LA->LA->O R)(k0:Nat->Nat->Int->LA->LA->O R)
def Atu(h f:Nat)(v:LA)(ag:Int)(ap:LA):O R:=(cond (Ac ag h) (Aq .i64 (v.drop (0+(ag.toNat*1))) fun ba=>cond (Ac ag f) (Aq .i64 (ap.drop (0+(ag.toNat*1))) fun bb=>cond (decide (ba>bb)) F (k0 h f (wrap .i64 (ag+1)) v ap)) none) none)
def Aso(h f:Nat)(x:Int)(v ae:LA):O R:=(cond ((x==la)==true) (cond (cond true (decide (la<(wrap .i64 (hs - 1)))) false) (cond (Ac x f) (Aq .i64 (ae.drop (0+(x.toNat*1))) fun bc=>Aq .i64 (b.drop 9) fun bd=>cond (Ac x f) (cond ((beq 1 1)&&((ble ((0+(x.toNat*1))+1) ae.length)&&(!false))) (Atu F k0 h f v x (ae.set (0+(x.toNat*1)) (.int .i64 (Ca bc bd)))) none) none) none) (Atu F k0 h f v x ae)) (Atu F k0 h f v x ae))
def Aum(h f:Nat)(u:Int)(an:Bool)(af z:LA):O R:=(cond an (cond (Ac u h) (Aq .i64 (af.drop (0+(u.toNat*1))) fun be=>Aq .i64 (b.drop 21) fun bf=>Aq .i64 (b.drop 7) fun bg=>cond (Ac u f) (Aq .i64 (z.drop (0+(u.toNat*1))) fun bh=>Aq .i64 (b.drop 21) fun bi=>Aq .i64 (b.drop 6) fun bj=>cond (Ac u h) (cond ((beq 1 1)&&((ble ((0+(u.toNat*1))+1) af.length)&&(!false))) (cond (Ac u f) (cond ((beq 1 1)&&((ble ((0+(u.toNat*1))+1) z.length)&&(!false))) (Aso hs la b F k0 h f u (af.set (0+(u.toNat*1)) (.int .i64 (Mj be (wrap .i64 (bf - bg))))) (z.set (0+(u.toNat*1)) (.int .i64 (Ca bh (wrap .i64 (bi+bj)))))) none) none) none) none) none) none) (cond (Ac u f) (Aq .i64 (z.drop (0+(u.toNat*1))) fun bk=>Aq .i64 (b.drop 8) fun bl=>cond (Ac u f) (cond ((beq 1 1)&&((ble ((0+(u.toNat*1))+1) z.length)&&(!false))) (Aso hs la b F k0 h f u af (z.set (0+(u.toNat*1)) (.int .i64 (Ca bk bl)))) none) none) none))
def Aru(h f:Nat)(s:Int)(ac ad:LA):O R:=(cond (decide (s<=la)) (Aq .i64 (b.drop 2) fun al=>Aq .i64 (b.drop 3) fun am=>cond (Ac s h) (cond ((beq 1 1)&&((ble ((0+(s.toNat*1))+1) ac.length)&&(!false))) (cond (Ac s f) (cond ((beq 1 1)&&((ble ((0+(s.toNat*1))+1) ad.length)&&(!false))) (cond (decide (s>fi)) (cond (Ac s h) (Aq .i64 ((ac.set (0+(s.toNat*1)) (.int .i64 al)).drop (0+(s.toNat*1))) fun bz=>cond (Ac (wrap .i64 (s - 1)) h) (Aq .i64 ((ac.set (0+(s.toNat*1)) (.int .i64 al)).drop (0+(((wrap .i64 (s - 1)).toNat)*1))) fun ca=>Aq .i64 (b.drop 7) fun cb=>cond (Ac s f) (Aq .i64 ((ad.set (0+(s.toNat*1)) (.int .i64 am)).drop (0+(s.toNat*1))) fun cc=>cond (Ac (wrap .i64 (s - 1)) f) (Aq .i64 ((ad.set (0+(s.toNat*1)) (.int .i64 am)).drop (0+(((wrap .i64 (s - 1)).toNat)*1))) fun cd=>Aq .i64 (b.drop 6) fun ce=>cond (Ac s h) (cond ((beq 1 1)&&((ble ((0+(s.toNat*1))+1) ((ac.set (0+(s.toNat*1)) (.int .i64 al)).length))&&(!false))) (cond (Ac s f) (cond ((beq 1 1)&&((ble ((0+(s.toNat*1))+1) ((ad.set (0+(s.toNat*1)) (.int .i64 am)).length))&&(!false))) (Aso hs la b F k0 h f s ((ac.set (0+(s.toNat*1)) (.int .i64 al)).set (0+(s.toNat*1)) (.int .i64 (Mj bz (wrap .i64 (ca - cb))))) ((ad.set (0+(s.toNat*1)) (.int .i64 am)).set (0+(s.toNat*1)) (.int .i64 (Ca cc (wrap .i64 (cd+ce)))))) none) none) none) none) none) none) none) none) (cond ((s==0)==true) (Aq .i64 (b.drop 19) fun cf=>Aum hs la b F k0 h f s (cond true (cf==2) false) (ac.set (0+(s.toNat*1)) (.int .i64 al)) (ad.set (0+(s.toNat*1)) (.int .i64 am))) (Aum hs la b F k0 h f s false (ac.set (0+(s.toNat*1)) (.int .i64 al)) (ad.set (0+(s.toNat*1)) (.int .i64 am))))) none) none) none) none) (Ex h f ac ad))
def Arv:Nat->Nat->Nat->Int->LA->LA->O R
|0=>fun _ _ _ _ _=>none
|n+1=>Aru hs fi la b F Ex (Arv n)
end
def uA{l:List Int}{s:Nat}{v:Int}:(Aj l).set (0+((Int.toNat (s:Int))*1)) (.int .i64 v)=Aj (l.set s v):=by rw[Axm,Ax0,Ax4];unfold Aj;rw[A11]
def Ang{l:List Int}{s:Nat}(h:s<l.length):((beq 1 1)&&((ble ((0+((Int.toNat (s:Int))*1))+1) (Aj l).length)&&(!false)))=true:=by rw[Axm,Lz,show ble (0+s*1+1) l.length=true by rw[Ays];omega];rfl
def gI{l:List Int}{s:Nat}{v:Int}(h:l[s]?=some v){f:Int->O R}:Aq .i64 (drop (0+((Int.toNat (s:Int))*1)) (Aj l)) f=f v:=by
 obtain⟨k,C⟩:=Axw.1 h
 rw[Ap5 k,C]
section
variable{u:UnitD}{hh:Int}{F:O R}{Ex:Nat->Nat->LA->LA->O R}{k0:Nat->Nat->Int->LA->LA->O R}
def Anh{H s:Nat}{lo hi:List Int}{x y:Int}(C:lo.length=H)(D:hi.length=H)(k:lo[s]?=some x)(hr:hi[s]?=some y)(hH:H<=1000)
  (f:y<x->F=X) (g:x<=y->k0 H H ((s:Int)+1) (Aj lo) (Aj hi)=X):Atu F k0 H H (Aj lo) (s:Int) (Aj hi)=X:=by
 have hs:=(Axw.1 k).1
 unfold Atu
 rw[Aa (by omega),ct,gI k,ct,gI hr,Ar _ (by omega)]
 by_cases h:y<x
 ·rw[decide_eq_true (show x>y from h),ct];exact f h
 ·rw[decide_eq_false (show ¬ x>y from h),cf];exact g (by omega)
def Atv{H s la:Nat}{lo hi:List Int}{x y:Int}(hv:A8 u hh=true)(I:lo.length=H)(D:hi.length=H)(G:lo[s]?=some x)(hr:hi[s]?=some y)(hH:H<=1000)(T:la<=1000)
  (f:(if s=la/\la+1<H then F4 y u.stopRamp else y)<x->F=X) (g:∀ C,C.length=H->(∀ t,t≠s->C[t]?=hi[t]?)->C[s]?=some (if s=la/\la+1<H then F4 y u.stopRamp else y)->x<=(if s=la/\la+1<H then F4 y u.stopRamp else y)->k0 H H ((s:Int)+1) (Aj lo) (Aj C)=X):Aso (H:Int) (la:Int) u.av F k0 H H (s:Int) (Aj lo) (Aj hi)=X:=by
 have hs:=(Axw.1 G).1
 unfold Aso
 by_cases e:s=la
 ·subst e
  rw[show(((s:Int)==(s:Int))==true)=true by simp,ct,Ar ((H:Int) - 1) (by omega)]
  by_cases L:s+1<H
  ·rw[decide_eq_true (show(s:Int)<(H:Int) - 1 by omega),show(cond true true false)=true from rfl,ct,Aa (by omega),ct,gI hr,u9,ct,Ang (by omega),ct,Le,uA]
   rw[if_pos ⟨rfl,L⟩]at f g
   exact Anh I (by simp[D]) G (Ayo (by omega)) hH f fun k=>g _ (by simp[D]) (fun t Y=>Ayg fun h=>Y h.symm) (Ayo (by omega)) k
  ·rw[decide_eq_false (show ¬ (s:Int)<(H:Int) - 1 by omega),show(cond true false false)=false from rfl,cf]
   rw[if_neg (fun h=>L h.2)]at f g
   exact Anh I D G hr hH f fun k=>g _ D (fun t _=>rfl) hr k
 ·rw[show(((s:Int)==(la:Int))==true)=false by simp;omega,cf]
  rw[if_neg (fun h=>e h.1)]at f g
  exact Anh I D G hr hH f fun k=>g _ D (fun t _=>rfl) hr k
def Atw{H j i t:Nat}{y:Int}(k:y=D2 (un u) j t)(D:t<=i):(if j+t=j+i/\(j+i)+1<H then F4 y u.stopRamp else y)=if t=i then Nc (un u) H j i else D2 (un u) j t:=by
 subst k
 by_cases e:t=i
 ·subst e
  rw[if_pos rfl]
  unfold Nc
  by_cases h:j+t+1<H
  ·rw[if_pos ⟨rfl,h⟩,if_pos h];rfl
  ·rw[if_neg (fun C=>h C.2),if_neg h]
 ·rw[if_neg (fun h=>e (by omega)),if_neg e]
def Aqc{H j i:Nat}(G:A8 u hh=true)(hH:H<=1000)(hj:j+i<H)
  (f:Nc (un u) H j i<Bs (un u) j i->F=X)
  (g:¬ Nc (un u) H j i<Bs (un u) j i->∀ lo hi,lo.length=H->hi.length=H->(∀ t,t<=i->lo[j+t]?=some (Bs (un u) j t)/\hi[j+t]?=some (if t=i then Nc (un u) H j i else D2 (un u) j t))->Ex H H (Aj lo) (Aj hi)=X):∀(m t fuel:Nat)(lo hi:List Int),t+m=i+1->m<fuel->lo.length=H->hi.length=H->(t=i+1->¬ Nc (un u) H j i<Bs (un u) j i)->(∀ t',t'<t->lo[j+t']?=some (Bs (un u) j t')/\hi[j+t']?=some (if t'=i then Nc (un u) H j i else D2 (un u) j t')) ->
  Arv (H:Int) (j:Int) ((j+i:Nat):Int) u.av F Ex fuel H H ((j+t:Nat):Int) (Aj lo) (Aj hi)=X
|0,t,fuel+1,lo,hi,hm,_,I,L,T,Y=>by
  rw[Arv];unfold Aru
  rw[decide_eq_false (show ¬ ((j+t:Nat):Int)<=((j+i:Nat):Int) by omega),cf]
  exact g (T (by omega)) lo hi I L fun t' ht=>Y t' (by omega)
| m+1,t,fuel+1,lo,hi,hm,hfu,I,L,T,Y=>by
  have ko:=Rr G
  have hmn:=Ce G
  have hR:=(Db G).2.1
  have v2:=hR.2.2.1;have v3:=hR.2.2.2.1;have v8:=hR.2.2.2.2.2.2.2.2.2.2.2
  have st:=D6 (a:=fun _=>0) (b:=fun _=>0) (fi:=j) ko t
  have ht:t<=i:=by omega
  have hs:j+t<H:=by omega
  have key:∀ k C:List Int,k.length=H->C.length=H->(∀ q,q≠j+t->k[q]?=lo[q]?/\C[q]?=hi[q]?)->k[j+t]?=some (Bs (un u) j t)->C[j+t]?=some (D2 (un u) j t)->Aso (H:Int) ((j+i:Nat):Int) u.av F (Arv (H:Int) (j:Int) ((j+i:Nat):Int) u.av F Ex fuel) H H ((j+t:Nat):Int) (Aj k) (Aj C)=X:=fun k C g1 g2 g3 g4 g5=>by
   refine Atv G g1 g2 g4 g5 hH (by omega) (fun D=>?_) fun hi2 q1 q2 q3 q4=>?_
   ·rw[Atw rfl ht]at D
    by_cases e:t=i
    ·subst e;rw[if_pos rfl]at D;exact f D
    ·rw[if_neg e]at D;have:=st.l1;omega
   ·rw[Atw rfl ht]at q3 q4
    rw[show((j+t:Nat):Int)+1=((j+(t+1):Nat):Int) by omega]
    refine Aqc G hH hj f g m (t+1) fuel k hi2 (by omega) (by omega) g1 q1 (fun e=>?_) fun t' ht'=>?_
    ·have:t=i:=by omega
     subst this;rw[if_pos rfl]at q4;omega
    ·by_cases e:t'=t
     ·subst e;exact⟨g4,q3⟩
     ·have p:=Y t' (by omega)
      rw[(g3 (j+t') (by omega)).1,q2 (j+t') (by omega),(g3 (j+t') (by omega)).2];exact p
  rw[Arv];unfold Aru
  rw[decide_eq_true (show((j+t:Nat):Int)<=((j+i:Nat):Int) by omega),ct,u2,u3,Aa hs,ct,Ang (by omega),ct,ct,Ang (by omega),ct,uA,uA]
  have sl:∀ v:Int,(lo.set (j+t) v)[j+t]?=some v:=fun v=>Ayo (by omega)
  have sr:∀ v:Int,(hi.set (j+t) v)[j+t]?=some v:=fun v=>Ayo (by omega)
  have e1:u.min=(un u).min:=rfl
  cases t with
  |succ t0 =>
   have p:=Y t0 (by omega)
   rw[if_neg (by omega)]at p
   have w1:wrap .i64 (((j+(t0+1):Nat):Int) - 1)=((j+t0:Nat):Int):=by rw[Ar _ (by omega)];omega
   have st0:=D6 (a:=fun _=>0) (b:=fun _=>0) (fi:=j) ko t0
   have b0:u.min<=Bs (un u) j t0:=st0.l0
   have b1:=st0.l1
   have b2:D2 (un u) j t0<=u.max:=st0.l2
   rw[decide_eq_true (show((j+(t0+1):Nat):Int)>(j:Int) by omega),ct,ct,gI (sl _),w1,Aa (by omega),ct,gI (s:=j+t0) (v:=Bs (un u) j t0) (by rw[Ayg (by omega)];exact p.1),u7,ct,gI (sr _),ct,gI (s:=j+t0) (v:=D2 (un u) j t0) (by rw[Ayg (by omega)];exact p.2),u6,ct,Ang (by simp;omega),ct,ct,Ang (by simp;omega),ct,uA,uA,A2n,A2n,Ar _ (by omega),Ar _ (by omega),NA,Le]
   exact key _ _ (by simp[I]) (by simp[L]) (fun q hq=>⟨Ayg (fun h=>hq h.symm),Ayg (fun h=>hq h.symm)⟩) (sl _) (sr _)
  | zero =>
   rw[decide_eq_false (show ¬ ((j+0:Nat):Int)>(j:Int) by omega),cf]
   have q2:∀ c:Bool,c=Kb (un u) j->Aum (H:Int) ((j+i:Nat):Int) u.av F (Arv (H:Int) (j:Int) ((j+i:Nat):Int) u.av F Ex fuel) H H ((j+0:Nat):Int) c (Aj (lo.set (j+0) u.min)) (Aj (hi.set (j+0) u.max))=X:=fun c hc=>by
    unfold Aum
    cases c with
    |true =>
     rw[ct,Aa hs,ct,gI (sl _),Ash,u7,ct,gI (sr _),Ash,u6,ct,Ang (by simp;omega),ct,ct,Ang (by simp;omega),ct,uA,uA,A2n,A2n,Ar _ (by omega),Ar _ (by omega),NA,Le]
     refine key _ _ (by simp[I]) (by simp[L]) (fun q hq=>⟨Ayg (fun h=>hq h.symm),Ayg (fun h=>hq h.symm)⟩) ?_ ?_
     ·rw[sl];unfold Bs;rw[<-hc];rfl
     ·rw[sr];unfold D2;rw[<-hc];rfl
    | false =>
     rw[cf,Aa hs,ct,gI (sr _),u8,ct,Ang (by simp;omega),ct,uA,A2n,Le]
     refine key _ _ (by simp[I]) (by simp[L]) (fun q hq=>⟨Ayg (fun h=>hq h.symm),Ayg (fun h=>hq h.symm)⟩) ?_ ?_
     ·rw[sl];unfold Bs;rw[<-hc];rfl
     ·rw[sr];unfold D2;rw[<-hc]
      have:u.startRamp<=u.max:=ko.sr0.2
      have e:F4 u.max u.startRamp=u.startRamp:=by unfold F4;split<;>omega
      rw[e];rfl
   by_cases e:j=0
   ·subst e
    rw[show((((0+0:Nat):Int)==0)==true)=true from rfl,ct,Aq6]
    exact q2 _ rfl
   ·rw[show((((j+0:Nat):Int)==0)==true)=false by simp;omega,cf]
    refine q2 _ ?_
    unfold Kb;rw[show(j==0)=false by simp[e]];rfl
end
end
end Gx.Uo
namespace Gx.Cf
open Go Go.Proofs
inductive Sl(α:Type)where
|nil
|of (l:List α) (t o:Bool)
def Sl.l{α:Type}:Sl α->List α
|.nil=>[]
|.of l _ _=>l
def Sl.av{α:Type}(sz:Nat)(e:α->LA):Sl α->AV
|.nil=>.nsl
|.of l t o=>.imm (l.flatMap e) l.length sz t o
def CM(n:Int):LA:=[.int .i64 n]
def Aj(l:List Int):LA:=l.map fun n=>.int .i64 n
def Fm:∀ l:List Int,l.flatMap CM=Aj l
|[]=>rfl
|a::r=>by rw[Aye,Fm r];rfl
def Io(l:List Int):(Aj l).length=l.length:=by simp[Aj]
def lC(l m:List Int):Aj l++Aj m=Aj (l++m):=by simp[Aj]
structure FracD where
 num:Int
 den:Int
structure BusD where
 name:List UInt8
 demand:Sl Int
 shed:Int
structure LineD where
 name:List UInt8
 fr:Int
 tl:Int
 re:FracD
 smin:FracD
 smax:FracD
 limit:Int
 emer:Int
 away:Sl Int
structure SegD where
 width:Int
 price:Int
structure UnitD where
 name:List UInt8
 bus:Int
 min:Int
 max:Int
 segs:Sl SegD
 noLoad:Int
 rampUp:Int
 rampDown:Int
 startRamp:Int
 stopRamp:Int
 upTime:Int
 downTime:Int
 startTime:Int
 hotCost:Int
 coldCost:Int
 hotHours:Int
 reserve:Int
 reservePrice:Int
 away:Sl Int
 state:Int
 hours:Int
 output:Int
structure StoreD where
 name:List UInt8
 bus:Int
 capacity:Int
 initial:Int
 final:Int
 charge:Int
 discharge:Int
 eff:FracD
structure TieD where
 name:List UInt8
 bus:Int
 imp:Sl Int
 exp:Sl Int
 price:Sl Int
structure MoveD where
 unit:Int
 up:Int
 down:Int
structure OutD where
 name:List UInt8
 lines:Sl Int
 corr:Bool
 moves:Sl MoveD
structure CaseD where
 hours:Int
 reserve:Sl Int
 buses:Sl BusD
 lines:Sl LineD
 units:Sl UnitD
 stores:Sl StoreD
 ties:Sl TieD
 outs:Sl OutD
def BusD.av(b:BusD):LA:=[.str b.name,b.demand.av 1 CM,.int .i64 b.shed]
def LineD.av(b:LineD):LA:=[.str b.name,.int .i64 b.fr,.int .i64 b.tl,.int .i64 b.re.num,.int .i64 b.re.den,.int .i64 b.smin.num,.int .i64 b.smin.den,.int .i64 b.smax.num,.int .i64 b.smax.den,.int .i64 b.limit,.int .i64 b.emer,b.away.av 1 CM]
def SegD.av(s:SegD):LA:=[.int .i64 s.width,.int .i64 s.price]
def UnitD.av(u:UnitD):LA:=[.str u.name,.int .i64 u.bus,.int .i64 u.min,.int .i64 u.max,u.segs.av 2 SegD.av,.int .i64 u.noLoad,.int .i64 u.rampUp,.int .i64 u.rampDown,.int .i64 u.startRamp,.int .i64 u.stopRamp,.int .i64 u.upTime,.int .i64 u.downTime,.int .i64 u.startTime,.int .i64 u.hotCost,.int .i64 u.coldCost,.int .i64 u.hotHours,.int .i64 u.reserve,.int .i64 u.reservePrice,u.away.av 1 CM,.int .i64 u.state,.int .i64 u.hours,.int .i64 u.output]
def StoreD.av(s:StoreD):LA:=[.str s.name,.int .i64 s.bus,.int .i64 s.capacity,.int .i64 s.initial,.int .i64 s.final,.int .i64 s.charge,.int .i64 s.discharge,.int .i64 s.eff.num,.int .i64 s.eff.den]
def TieD.av(t:TieD):LA:=[.str t.name,.int .i64 t.bus,t.imp.av 1 CM,t.exp.av 1 CM,t.price.av 1 CM]
def MoveD.av(m:MoveD):LA:=[.int .i64 m.unit,.int .i64 m.up,.int .i64 m.down]
def OutD.av(o:OutD):LA:=[.str o.name,o.lines.av 1 CM,.bool o.corr,o.moves.av 3 MoveD.av]
def CaseD.av(c:CaseD):LA:=[.int .i64 c.hours,c.reserve.av 1 CM,c.buses.av 3 BusD.av,c.lines.av 12 LineD.av,c.units.av 22 UnitD.av,c.stores.av 9 StoreD.av,c.ties.av 5 TieD.av,c.outs.av 4 OutD.av]
section
variable{R:Type}
def H0{α:Type}{sz:Nat}{e:α->LA}{s:Sl α}{r:LA}{f:LA->Nat->O R}:Bq sz (s.av sz e::r) f=f (s.l.flatMap e) s.l.length:=by cases s<;>simp[Bq,Sl.av,Sl.l,Aho]
def CP{s:Lu}{r:LA}{f:Lu->O R}:ue (.str s::r) f=f s:=by simp[ue,jV]
def Ani{b:Bool}{r:LA}{f:Bool->O R}:DD (.bool b::r) f=f b:=by simp[DD,asBool]
def Ey(a b:Nat):ble a b=decide (a<=b):=by
  cases h:ble a b with
  |true=>simp at h;simp[h]
  | false => have : ¬ a <= b := fun k => by rw [Nat.ble_eq_true_of_le k] at h; cases h
             simp[this]
def yp(a b:Nat):beq a b=decide (a=b):=by
  cases h:beq a b with
  |true=>have:=Axy h;simp[this]
  | false => have : a ≠ b := fun e => by subst e; rw [A4s] at h; cases h
             simp[this]
def ct(x y:O R):cond true x y=x:=rfl
def cf(x y:O R):cond false x y=y:=rfl
def Bh{α:Type}{e:α->LA}{sz:Nat}(k:∀ a,(e a).length=sz):∀(l:List α)(j:Nat)(h:j<l.length),drop (j*sz) (l.flatMap e)=e l[j]++(l.drop (j+1)).flatMap e
|a::r,0,_=>by simp
|a::r,j+1,h=>by
  have:=Bh k r j (by simpa using h)
  rw[Aye,A3g,k,show(j+1)*sz - sz=j*sz by rw[Ax2];omega,Ayv (by rw[k,Ax2];omega)]
  simpa using this
def TA{l:List Int}{i:Nat}(h:i<l.length){f:Int->O R}:Aq .i64 (drop i (Aj l)) f=f l[i]:=by rw[Aj,Ayx (by simpa using h)];simp[Av]
abbrev Jb:=Option ((Int×Int×Int)×{e:Int // e≠0})
def nd(p:Jb)(ok:Bool)(w:Int×Int×Int)(e:{e:Int // e≠0}):Jb:=match p with
|some x=>some x
|none=>cond ok none (some (w,e))
def NC(p:Jb)(w:Int×Int×Int)(e:{e:Int // e≠0}):nd p true w e=p:=by cases p<;>rfl
def Ao5(x:(Int×Int×Int)×{e:Int // e≠0})(ok:Bool)(w:Int×Int×Int)(e:{e:Int // e≠0}):nd (some x) ok w e=some x:=rfl
def Acl(p:Jb)(a b:Bool)(w:Int×Int×Int)(e:{e:Int // e≠0}):nd (nd p a w e) b w e=nd p (a&&b) w e:=by cases p<;>cases a<;>cases b<;>rfl
def Anj(p:Jb)(k i:Int):LA:=match p with
|none=>[.int .i64 k,.int .i64 i,.int .i64 0,.int .i64 0]
|some ((a,b,f),e)=>[.int .i64 a,.int .i64 b,.int .i64 f,.int .i64 e.1]
def Fc(lo hi n:Int):Bool:=decide (lo<=n)&&decide (n<=hi)
end
end Gx.Cf
namespace Gx.Cf
open Go Go.Proofs
section
variable{R:Type}
def Q3(n N:Nat):Prop:=n<N/\n<4611686018427387904
def Fb{j:Nat}(h:j<4611686018427387904):wrap .i64 ((j:Int)+1)=((j+1:Nat):Int):=by rw[Ar _ (by omega)];omega
def rq{l:List Int}{j:Nat}(h:j<l.length){f:Int->O R}:Aq .i64 (drop ((Int.toNat (j:Int))*1) (Aj l)) f=f l[j]:=by rw[Axm,Ax4,TA h]
def Jo{j n:Nat}(h:j<n):decide ((j:Int)<(n:Int))=true:=by simp;omega
def Ki{j n:Nat}(h:n<=j):decide ((j:Int)<(n:Int))=false:=by simp;omega
def Fo{α:Type}{l:List α}{j:Nat}(h:j<l.length):l.drop j=l[j]::l.drop (j+1):=Ayx h
def Hw{α:Type}{l:List α}{j:Nat}(h:l.length<=j):l.drop j=[]:=Ayv h
def IS{N:Nat}{lo hi:Int}{l:List Int}{t o:Bool}{K:Bool->O R}(hs:l.length<4611686018427387904):∀(m j fuel:Nat),j+m=l.length->m<fuel ->
  He N K lo hi (Aj l) l.length t o fuel (j:Int)=K ((l.drop j).all (Fc lo hi))
|0,j,fuel+1,D,_=>by
  rw[He];unfold P9
  rw[Ki (by omega),cf,Hw (by omega)];rfl
| m+1,j,fuel+1,D,I=>by
  rw[He];unfold P9
  have h:j<l.length:=by omega
  rw[Jo h,ct,Aa h,ct,rq h,ct,rq h,Fb (by omega),IS hs m (j+1) fuel (by omega) (by omega),Fo h,Az3]
  unfold Fc
  by_cases k:l[j]<lo
  ·have:¬ lo<=l[j]:=by omega
   simp[k,this]
  ·have:lo<=l[j]:=by omega
   by_cases C:l[j]>hi
   ·have:¬ l[j]<=hi:=by omega
    simp[k,C,this]
   ·have G:l[j]<=hi:=by omega
    simp[k,C,this,G]
def G4{N:Nat}{lo hi:Int}{l:List Int}{n:Nat}{t o:Bool}{K:Bool->O R}(hn:n=l.length)(hs:Q3 l.length N):As N lo hi (Aj l) n t o K=K (l.all (Fc lo hi)):=by
 subst hn
 rw[OF];unfold Y6
 have:=IS (R:=R) (N:=N) (lo:=lo) (hi:=hi) (t:=t) (o:=o) (K:=K) hs.2 l.length 0 N (by omega) hs.1
 simpa using this
def D1{N:Nat}{lo hi a:Int}{t o:Bool}{K:Bool->O R}(hN:8<=N):As N lo hi [.int .i64 a] 1 t o K=K (Fc lo hi a):=by
 have:=G4 (R:=R) (N:=N) (lo:=lo) (hi:=hi) (l:=[a]) (t:=t) (o:=o) (K:=K) rfl ⟨by simp;omega,by simp⟩
 simpa[Aj]using this
def mo{N:Nat}{lo hi a b:Int}{t o:Bool}{K:Bool->O R}(hN:8<=N):As N lo hi [.int .i64 a,.int .i64 b] 2 t o K=K (Fc lo hi a&&Fc lo hi b):=by
 have:=G4 (R:=R) (N:=N) (lo:=lo) (hi:=hi) (l:=[a,b]) (t:=t) (o:=o) (K:=K) rfl ⟨by simp;omega,by simp⟩
 simpa[Aj]using this
def asc:List Int->Bool
|a::b::r=>decide (a<b)&&asc (b::r)
|_=>true
def IT(a b:Int)(r:List Int):asc (a::b::r)=(decide (a<b)&&asc (b::r)):=by rw[asc]
def fX(a:Int):asc [a]=true:=by rw[asc];intros;simp_all
def yq:asc []=true:=by rw[asc];intros;simp_all
def rt{j:Nat}(h:j+1<4611686018427387904):wrap .i64 (((j+1:Nat):Int) - 1)=(j:Int):=by rw[Ar _ (by omega)];omega
def PC{N:Nat}{l:List Int}{t o:Bool}{K:Bool->O R}(hs:l.length<4611686018427387904):∀(m j fuel:Nat),j+1+m=l.length->m<fuel ->
  Gy N K (Aj l) l.length t o fuel ((j+1:Nat):Int)=K (asc (l.drop j))
|0,j,fuel+1,C,_=>by
  rw[Gy];unfold Nq
  rw[Ki (by omega),cf,Fo (by omega),Hw (by omega),fX]
| m+1,j,fuel+1,C,D=>by
  rw[Gy];unfold Nq
  have h:j+1<l.length:=by omega
  have h':j<l.length:=by omega
  rw[Jo h,ct,Aa h,ct,rq h,rt (by omega),Aa h',ct,rq h',Fb (by omega),PC hs m (j+1) fuel (by omega) (by omega),Fo h',Fo h,IT]
  by_cases k:l[j+1]<=l[j]
  ·have:¬ l[j]<l[j+1]:=by omega
   simp[k,this]
  ·have:l[j]<l[j+1]:=by omega
   simp[k,this]
def Xx{N:Nat}{l:List Int}{n:Nat}{t o:Bool}{K:Bool->O R}(hn:n=l.length)(hs:Q3 l.length N):Qs N (Aj l) n t o K=K (asc l):=by
 subst hn
 rw[RU];unfold DU
 rcases l with _|⟨a,r⟩
 ·have hN:=hs.1
  rcases N with _|N
  ·simp at hN
  ·rw[Gy];unfold Nq;simp[yq]
 ·have:=PC (R:=R) (N:=N) (t:=t) (o:=o) (K:=K) hs.2 r.length 0 N (by simp;omega) (by have:=hs.1;simp at this;omega)
  simpa using this
def fY{N:Nat}{v:Int}{l:List Int}{t o:Bool}{K:Bool->O R}(hs:l.length<4611686018427387904):∀(m j fuel:Nat),j+m=l.length->m<fuel ->
  Qu N K (Aj l) l.length t o v fuel (j:Int)=K ((l.drop j).contains v)
|0,j,fuel+1,k,_=>by
  rw[Qu];unfold DV
  rw[Ki (by omega),cf,Hw (by omega)];rfl
|m+1,j,fuel+1,k,C=>by
  rw[Qu];unfold DV
  have h:j<l.length:=by omega
  rw[Jo h,ct,Aa h,ct,rq h,Fb (by omega),fY hs m (j+1) fuel (by omega) (by omega),Fo h,List.contains_cons,BEq.comm]
  cases D:v==l[j]<;>simp
def ND{N:Nat}{v:Int}{l:List Int}{n:Nat}{t o:Bool}{K:Bool->O R}(hn:n=l.length)(hs:Q3 l.length N):LG N (Aj l) n t o v K=K (l.contains v):=by
 subst hn
 rw[kE];unfold dB
 have:=fY (R:=R) (N:=N) (v:=v) (t:=t) (o:=o) (K:=K) hs.2 l.length 0 N (by omega) hs.1
 simpa using this
def Hx:Jb->Int
|none=>0
|some x=>x.2.1
def IU{c:CaseD}{f:Int->O R}:Aq .i64 c.av f=f c.hours:=by simp[CaseD.av,Av]
def Afk{c:CaseD}{f:LA->Nat->O R}:Bq 1 (drop 1 c.av) f=f (Aj c.reserve.l) c.reserve.l.length:=by simp[CaseD.av,H0,Fm]
def Tm{c:CaseD}{f:LA->Nat->O R}:Bq 3 (drop 2 c.av) f=f (c.buses.l.flatMap BusD.av) c.buses.l.length:=by simp[CaseD.av,H0]
def P6{c:CaseD}{f:LA->Nat->O R}:Bq 12 (drop 3 c.av) f=f (c.lines.l.flatMap LineD.av) c.lines.l.length:=by simp[CaseD.av,H0]
def CQ{c:CaseD}{f:LA->Nat->O R}:Bq 22 (drop 4 c.av) f=f (c.units.l.flatMap UnitD.av) c.units.l.length:=by simp[CaseD.av,H0]
def AC{c:CaseD}{f:LA->Nat->O R}:Bq 9 (drop 5 c.av) f=f (c.stores.l.flatMap StoreD.av) c.stores.l.length:=by simp[CaseD.av,H0]
def VI{c:CaseD}{f:LA->Nat->O R}:Bq 5 (drop 6 c.av) f=f (c.ties.l.flatMap TieD.av) c.ties.l.length:=by simp[CaseD.av,H0]
def Zt{c:CaseD}{f:LA->Nat->O R}:Bq 4 (drop 7 c.av) f=f (c.outs.l.flatMap OutD.av) c.outs.l.length:=by simp[CaseD.av,H0]
def C0(p:Jb):LA:=Anj p 0 0
def Af{N:Nat}{p:Jb}{k i f e:Int}{ok:Bool}{K:LA->O R}(D:e≠0):
  Ab N ok k i f e (C0 p) K=K (C0 (nd p ok (k,i,f) ⟨e,D⟩)):=by
 rw[Wn];unfold Ms Je
 rcases p with _|⟨⟨a,b,G⟩,e',C⟩
 ·cases ok<;>simp[C0,Anj,Av,nd,Ey,Dd]
 ·have:(e'==0)=false:=by simpa using C
  simp[C0,Anj,Av,nd,this]
def vw(h:Int)(l:List Int)(lo hi:Int)(w:Int×Int×Int)(p:Jb):Jb:=nd (nd p ((l.length:Int)==h) w ⟨4,by decide⟩) (l.all (Fc lo hi)) w ⟨3,by decide⟩
def rx(h:Int)(l:List Int)(w:Int×Int×Int)(p:Jb):Jb:=nd (nd p (l.all (Fc 0 (wrap .i64 (h - 1)))) w ⟨3,by decide⟩) (asc l) w ⟨11,by decide⟩
def Ee{N:Nat}{c:CaseD}{p:Jb}{k i f lo hi:Int}{l:List Int}{n:Nat}{t o o1:Bool}{K:LA->O R}(hn:n=l.length)(hs:Q3 l.length N):
  C4 N c.av o1 (Aj l) n t o lo hi k i f (C0 p) K=K (C0 (vw c.hours l lo hi (k,i,f) p)):=by
 rw[Sf];unfold Pg
 rw[IU,Af (by decide),G4 hn hs,Af (by decide),hn];rfl
def Tz{N:Nat}{c:CaseD}{p:Jb}{k i f:Int}{l:List Int}{n:Nat}{t o o1:Bool}{K:LA->O R}(hn:n=l.length)(hs:Q3 l.length N):
  Jq N c.av o1 (Aj l) n t o k i f (C0 p) K=K (C0 (rx c.hours l (k,i,f) p)):=by
 rw[Wq];unfold Sh
 rw[IU,G4 hn hs,Af (by decide),Xx hn hs,Af (by decide)];rfl
def lD(c:CaseD)(b:Int):Bool:=decide (0<=b)&&decide (b<(c.buses.l.length:Int))
def Afl(n:Nat)(b:Int)(h:n<4611686018427387904):Fc 0 (wrap .i64 ((n:Int) - 1)) b=(decide (0<=b)&&decide (b<(n:Int))):=by
 rw[Ar _ (by omega),Fc]
 congr 1
 simp;omega
def Iq{N:Nat}{c:CaseD}{p:Jb}{k i f b:Int}{o1:Bool}{K:LA->O R}(hN:8<=N)(C:c.buses.l.length<4611686018427387904):
  E3 N c.av o1 b k i f (C0 p) K=K (C0 (nd p (lD c b) (k,i,f) ⟨12,by decide⟩)):=by
 rw[X7];unfold Uu
 rw[Tm,D1 hN,Afl _ _ C,Af (by decide)];rfl
def Q4(f:FracD):Bool:=Fc 1 1048576 f.den&&Fc (-1048576) 1048576 f.num
def FE{N:Nat}{f:FracD}{o:Bool}{K:Bool->O R}(hN:8<=N):Kt N [.int .i64 f.num,.int .i64 f.den] o K=K (Q4 f):=by
 rw[HG];unfold FR
 simp only[Ay2,Ayh,Av,D1 hN]
 unfold Q4
 cases Fc 1 1048576 f.den<;>simp
def yr(c:UInt8):Bool:=decide (97<=c.toNat)&&decide (c.toNat<=122)
def Arw(c:UInt8):Bool:=yr c||(decide (48<=c.toNat)&&decide (c.toNat<=57))||decide (c.toNat=95)
def yu(s:Lu):Bool:=decide (1<=s.length)&&(decide (s.length<=16)&&(!(s==[99,111,114,114,101,99,116,105,118,101])&&(yr (s.getD 0 0)&&s.all Arw)))
def Ag9{s:Lu}{j:Nat}(h:j<s.length):List.getD s (Int.toNat (j:Int)) 0=s[j]:=by rw[Axm,Axu,Axn h];rfl
def YH{N:Nat}{s:Lu}{K:Bool->O R}(hs:s.length<4611686018427387904):∀(m j fuel:Nat),j+m=s.length->m<fuel ->
  Np N K s fuel (j:Int)=K ((decide (j≠0)||(decide (s.length=0)||yr (s.getD 0 0)))&&(s.drop j).all Arw)
| 0,j,fuel+1,I,_=>by
  rw[Np];unfold Y7
  rw[Ki (by omega),cf,Hw (by omega)]
  by_cases h:j=0
  ·have:s.length=0:=by omega
   simp[this]
  ·simp[h]
| m+1,j,fuel+1,I,hf=>by
  rw[Np];unfold Y7 DS
  have h:j<s.length:=by omega
  rw[Jo h,ct,Aa h,ct,Fb (by omega),YH hs m (j+1) fuel (by omega) (by omega),Fo h,Az3,Ag9 h]
  have L:j=0->s.getD 0 0=s[j]:=fun e=>by
   have:=Ag9 h;rw[<-this,e];rfl
  unfold Arw yr
  by_cases k:j=0
  ·rw[L k]
   have C:decide (s.length=0)=false:=decide_eq_false (by omega)
   have e:((j:Int)==0)=true:=by simp;omega
   simp only[ct,k,ne_eq,not_true_eq_false,decide_false,A1q,C,Ax0,show decide (¬ (1=0))=true by decide,A0w,A3c]
   simp only[k]at *
   generalize s[0].toNat=v
   by_cases D:97<=v<;>by_cases G:v<=122<;>simp[D,G,show((97:Int)<=v)↔97<=v by omega,show((v:Int)<=122)↔v<=122 by omega]
  ·have e:((j:Int)==0)=false:=by simp;omega
   simp only[ct,e,k,ne_eq,not_false_eq_true,decide_true,A0w,A3c,show decide (¬ (j+1=0))=true by simp]
   generalize s[j].toNat=v
   generalize (s.drop (j+1)).all _=r
   by_cases D:97<=v<;>by_cases G:v<=122<;>by_cases T:48<=v<;>by_cases Y:v<=57<;>by_cases h5:v=95 <;>
    simp[D,G,T,Y,show((97:Int)<=v)↔97<=v by omega,show((v:Int)<=122)↔v<=122 by omega,show((v:Int)<48)↔¬ 48<=v by omega,show((57:Int)<v)↔¬ v<=57 by omega,show((v:Int) != 95)=!decide (v=95) by(by_cases v=95<;>simp_all<;>omega),h5]
def uB{N:Nat}{s:Lu}{K:Bool->O R}(hN:64<=N):RR N s K=K (yu s):=by
 rw[c9];unfold UX DT KX
 unfold yu
 by_cases k:1<=s.length
 ·by_cases C:s.length<=16
  ·have D:=YH (R:=R) (N:=N) (s:=s) (K:=K) (by omega) s.length 0 N (by omega) (by omega)
   simp only[Ayh,A0h]at D
   rw[D]
   simp only[k,C,show(decide ((s.length:Int)<1))=false by simp;omega,show(decide ((s.length:Int)>16))=false by simp;omega,decide_true,cond_true,cond_false,beq_self_eq_true]
   have:s.length≠0:=by omega
   cases s==[99,111,114,114,101,99,116,105,118,101]<;>simp[this]
  ·simp[k,C,show((s.length:Int)<1)↔¬ 1<=s.length by omega,show((16:Int)<s.length)↔¬ s.length<=16 by omega]
 ·simp[k,show((s.length:Int)<1)↔¬ 1<=s.length by omega]
def fZ(names:List Lu)(k i:Int)(s:Lu)(p:Jb):Jb:=nd (nd p (yu s) (k,i,0) ⟨9,by decide⟩) (names.all fun x=>!(x==s)) (k,i,0) ⟨10,by decide⟩
def IV(a:BusD):a.av.length=3:=rfl
def G5(a:LineD):a.av.length=12:=rfl
def O8(a:UnitD):a.av.length=22:=rfl
def Oe(a:StoreD):a.av.length=9:=rfl
def Xd(a:TieD):a.av.length=5:=rfl
def Of(a:OutD):a.av.length=4:=rfl
structure Small(c:CaseD)(N:Nat):Prop where
 n64:64<=N
 res:Q3 c.reserve.l.length N
 bus:Q3 c.buses.l.length N
 lin:Q3 c.lines.l.length N
 uni:Q3 c.units.l.length N
 sto:Q3 c.stores.l.length N
 tie:Q3 c.ties.l.length N
 out:Q3 c.outs.l.length N
 dem:∀ b∈c.buses.l,Q3 b.demand.l.length N
 law:∀ b∈c.lines.l,Q3 b.away.l.length N
 seg:∀ b∈c.units.l,Q3 b.segs.l.length N
 uaw:∀ b∈c.units.l,Q3 b.away.l.length N
 tim:∀ b∈c.ties.l,Q3 b.imp.l.length N
 tex:∀ b∈c.ties.l,Q3 b.exp.l.length N
 tpr:∀ b∈c.ties.l,Q3 b.price.l.length N
 oli:∀ b∈c.outs.l,Q3 b.lines.l.length N
 omo:∀ b∈c.outs.l,Q3 b.moves.l.length N
 omb:∀ b∈c.outs.l,b.moves.l.length<8796093022208
 top:c.buses.l.length<=1000000/\c.lines.l.length<=1000000/\c.units.l.length<=1000000/\c.stores.l.length<=1000000/\c.ties.l.length<=1000000/\c.outs.l.length<=1000000
def Gb{α:Type}(f:Nat->α->Jb->Jb):List α->Nat->Jb->Jb
|[],_,p=>p
|a::r,j,p=>Gb f r (j+1) (f j a p)
def Og{α:Type}{f:Nat->α->Jb->Jb}{x:(Int×Int×Int)×{e:Int // e≠0}}(k:∀ j a,f j a (some x)=some x):∀(l:List α)(j:Nat),Gb f l j (some x)=some x
|[],_=>rfl
|a::r,j=>by rw[Gb,k];exact Og k r (j+1)
abbrev e1:{e:Int // e≠0}:=⟨1,by decide⟩
abbrev e3:{e:Int // e≠0}:=⟨3,by decide⟩
abbrev e4:{e:Int // e≠0}:=⟨4,by decide⟩
abbrev e8:{e:Int // e≠0}:=⟨8,by decide⟩
abbrev An8:{e:Int // e≠0}:=⟨11,by decide⟩
abbrev Ad5:{e:Int // e≠0}:=⟨12,by decide⟩
abbrev Auy:{e:Int // e≠0}:=⟨13,by decide⟩
abbrev An9:{e:Int // e≠0}:=⟨16,by decide⟩
def Afm(c:CaseD)(p:Jb):Jb :=
 let p:=nd p (Fc 1 24 c.hours) (0,0,0) e3
 let p:=vw c.hours c.reserve.l 0 1048576 (0,0,1) p
 let p:=nd p (Fc 1 32 (c.buses.l.length:Int)) (0,0,2) e8
 let p:=nd p (decide ((c.lines.l.length:Int)<=64)) (0,0,3) e8
 let p:=nd p (decide ((c.units.l.length:Int)<=16)) (0,0,4) e8
 let p:=nd p (decide ((c.stores.l.length:Int)<=8)) (0,0,5) e8
 let p:=nd p (decide ((c.ties.l.length:Int)<=8)) (0,0,6) e8
 nd p (decide ((c.outs.l.length:Int)<=64)) (0,0,7) e8
def Ao6(c:CaseD)(j:Nat)(b:BusD)(p:Jb):Jb :=
 let p:=fZ ((c.buses.l.map (·.name)).take j) 1 j b.name p
 let p:=vw c.hours b.demand.l 0 1048576 (1,j,1) p
 nd p (Fc 0 1048576 b.shed) (1,j,2) e3
def vz(c:CaseD)(j:Nat)(x:LineD)(p:Jb):Jb :=
 let p:=fZ ((c.lines.l.map (·.name)).take j) 2 j x.name p
 let p:=nd p (lD c x.fr) (2,j,1) Ad5
 let p:=nd p (lD c x.tl) (2,j,2) Ad5
 let p:=nd p (x.tl != x.fr) (2,j,2) e1
 let p:=nd p (Q4 x.re&&decide (x.re.num>0)) (2,j,3) e3
 let p:=nd p (Q4 x.smin&&decide (x.smin.num<=0)) (2,j,4) e3
 let p:=nd p (Q4 x.smax&&decide (x.smax.num>=0)) (2,j,5) e3
 let p:=nd p (Fc 0 1048576 x.limit) (2,j,6) e3
 let p:=nd p (Fc x.limit 1048576 x.emer) (2,j,7) e3
 rx c.hours x.away.l (2,j,8) p
def ry(c:CaseD)(j:Nat)(x:StoreD)(p:Jb):Jb :=
 let p:=fZ ((c.stores.l.map (·.name)).take j) 4 j x.name p
 let p:=nd p (lD c x.bus) (4,j,1) Ad5
 let p:=nd p (Fc 0 1048576 x.capacity) (4,j,2) e3
 let p:=nd p (Fc 0 x.capacity x.initial) (4,j,3) e3
 let p:=nd p (Fc 0 x.capacity x.final) (4,j,4) e3
 let p:=nd p (Fc 0 1048576 x.charge) (4,j,5) e3
 let p:=nd p (Fc 0 1048576 x.discharge) (4,j,6) e3
 nd p (Q4 x.eff&&(decide (x.eff.num>0)&&decide (x.eff.num<=x.eff.den))) (4,j,7) e3
def Ao7(c:CaseD)(j:Nat)(x:TieD)(p:Jb):Jb :=
 let p:=fZ ((c.ties.l.map (·.name)).take j) 5 j x.name p
 let p:=nd p (lD c x.bus) (5,j,1) Ad5
 let p:=vw c.hours x.imp.l 0 1048576 (5,j,2) p
 let p:=vw c.hours x.exp.l 0 1048576 (5,j,3) p
 vw c.hours x.price.l (-1048576) 1048576 (5,j,4) p
def CS(a:SegD):a.av.length=2:=rfl
def O9(a:MoveD):a.av.length=3:=rfl
def Ed(s:SegD):Bool:=Fc 1 1048576 s.width&&Fc (-1048576) 1048576 s.price
def NE(a:Int):List SegD->Int
|[]=>a
|s::r=>NE (wrap .i64 (a+s.width)) r
def TL:List SegD->Bool
|a::b::r=>decide (b.price>=a.price)&&TL (b::r)
|_=>true
def NF(a b:SegD)(r:List SegD):TL (a::b::r)=(decide (b.price>=a.price)&&TL (b::r)):=by rw[TL]
def rz(a:SegD):TL [a]=true:=by rw[TL];intros;simp_all
def Acm:TL []=true:=by rw[TL];intros;simp_all
def Ank(u:UnitD)(j:Nat)(p:Jb):Jb :=
 let p:=nd p (decide ((u.segs.l.length:Int)<=8)) (3,j,4) e8
 let p:=nd p (u.segs.l.all Ed) (3,j,4) e3
 let p:=nd p (TL u.segs.l) (3,j,4) An8
 nd p (NE 0 u.segs.l==wrap .i64 (u.max - u.min)) (3,j,4) e4
def jJ{u:UnitD}{f:LA->Nat->O R}:Bq 2 (drop 4 u.av) f=f (u.segs.l.flatMap SegD.av) u.segs.l.length:=by simp[UnitD.av,H0]
def Aqd{u:UnitD}{f:Int->O R}:Aq .i64 (drop 3 u.av) f=f u.max:=by simp[UnitD.av,Av]
def Aqe{u:UnitD}{f:Int->O R}:Aq .i64 (drop 2 u.av) f=f u.min:=by simp[UnitD.av,Av]
def wB{l:List SegD}{j:Nat}(h:j<l.length){f:Int->O R}:Aq .i64 (drop 1 (drop ((Int.toNat (j:Int))*2) (l.flatMap SegD.av))) f=f l[j].price:=by rw[Axm,Bh CS _ _ h];simp[SegD.av,Av]
def Ajz{l:List SegD}{j:Nat}(h:j<l.length){f:Int->O R}:Aq .i64 (drop ((Int.toNat (j:Int))*2) (l.flatMap SegD.av)) f=f l[j].width:=by rw[Axm,Bh CS _ _ h];simp[SegD.av,Av]
def Acn(c:CaseD)(j:Nat)(u:UnitD)(p:Jb):Jb :=
 let p:=fZ ((c.units.l.map (·.name)).take j) 3 j u.name p
 let p:=nd p (lD c u.bus) (3,j,1) Ad5
 let p:=nd p (Fc 0 1048576 u.min) (3,j,2) e3
 let p:=nd p (Fc u.min 1048576 u.max) (3,j,3) e3
 let p:=Ank u j p
 let p:=nd p (Fc 0 1048576 u.noLoad) (3,j,5) e3
 let p:=nd p (Fc 0 1048576 u.rampUp) (3,j,6) e3
 let p:=nd p (Fc 0 1048576 u.rampDown) (3,j,7) e3
 let p:=nd p (Fc u.min u.max u.startRamp) (3,j,8) e3
 let p:=nd p (Fc u.min u.max u.stopRamp) (3,j,9) e3
 let p:=nd p (Fc 0 24 u.upTime) (3,j,10) e3
 let p:=nd p (Fc 0 24 u.downTime) (3,j,11) e3
 let p:=nd p (Fc 0 24 u.startTime) (3,j,12) e3
 let p:=nd p (Fc 0 1048576 u.hotCost) (3,j,13) e3
 let p:=nd p (Fc 0 1048576 u.coldCost) (3,j,14) e3
 let p:=nd p (Fc 0 24 u.hotHours) (3,j,15) e3
 let p:=nd p (Fc 0 1048576 u.reserve) (3,j,16) e3
 let p:=nd p (Fc 0 1048576 u.reservePrice) (3,j,17) e3
 let p:=rx c.hours u.away.l (3,j,18) p
 let p:=nd p (Fc 0 2 u.state) (3,j,19) Ad5
 let p:=nd p (u.state != 1||u.startTime != 0) (3,j,19) An9
 let p:=nd p (Fc 1 48 u.hours) (3,j,20) e3
 let p:=nd p (u.state != 1||decide (u.hours<=u.startTime)) (3,j,20) e3
 cond (u.state==2) (nd p (Fc u.min u.max u.output) (3,j,21) e3) (nd p (Fc 0 0 u.output) (3,j,21) e3)
def Ao8(c:CaseD)(m:MoveD):Bool:=decide (0<=m.unit)&&decide (m.unit<(c.units.l.length:Int))
def Aj0(m:MoveD):Bool:=Fc 0 1048576 m.up&&Fc 0 1048576 m.down
def Afn(c:CaseD)(o:OutD)(j:Nat)(p:Jb):Jb :=
 let p:=nd p ((o.moves.l.length:Int)==0||o.corr) (6,j,3) An9
 let p:=nd p (decide ((o.moves.l.length:Int)<=16)) (6,j,3) e8
 let p:=nd p (o.moves.l.all (Ao8 c)) (6,j,3) Ad5
 let p:=nd p (asc (o.moves.l.map (·.unit))) (6,j,3) An8
 nd p (o.moves.l.all Aj0) (6,j,3) e3
def Aha{u:OutD}{f:LA->Nat->O R}:Bq 3 (drop 3 u.av) f=f (u.moves.l.flatMap MoveD.av) u.moves.l.length:=by simp[OutD.av,H0]
def Arx{u:OutD}{f:Bool->O R}:DD (drop 2 u.av) f=f u.corr:=by simp[OutD.av,Ani]
def Aj1(c:CaseD)(j:Nat)(x:OutD)(p:Jb):Jb :=
 let p:=fZ ((c.outs.l.map (·.name)).take j) 6 j x.name p
 let p:=nd p ((x.lines.l.length:Int)==1||(x.lines.l.length:Int)==2) (6,j,1) e4
 let p:=nd p (x.lines.l.all fun n=>decide (0<=n)&&decide (n<(c.lines.l.length:Int))) (6,j,1) Ad5
 let p:=nd p (asc x.lines.l) (6,j,1) An8
 Afn c x j p
def jK{c:CaseD}{j:Nat}{x:OutD}{y:(Int×Int×Int)×{e:Int // e≠0}}:Aj1 c j x (some y)=some y:=rfl
def Ao9{u:OutD}{f:LA->Nat->O R}:Bq 1 (drop 1 u.av) f=f (Aj u.lines.l) u.lines.l.length:=by simp[OutD.av,H0,Fm]
def G6(l:List Lu):LA:=l.map fun s=>.str s
def Rs(l:List Lu):(G6 l).length=l.length:=by simp[G6]
def sA{l:List Lu}{i:Nat}(h:i<l.length){f:Lu->O R}:ue (drop i (G6 l)) f=f l[i]:=by rw[G6,Ayx (by simpa using h)];simp[CP]
def Fu{c:CaseD}:take 8 c.av=c.av:=rfl
def Oh{c:CaseD}:ble 8 (List.length c.av)=true:=rfl
def IW{N:Nat}{c:CaseD}{o:Bool}{K:Nat->LA->O R}(C:c.buses.l.length<=1000000):∀(m j fuel:Nat),j+m=c.buses.l.length->m<fuel ->
  Kl N K o c.av fuel j (j:Int) (G6 ((c.buses.l.take j).map (·.name)))=K c.buses.l.length (G6 (c.buses.l.map (·.name)))
|0,j,fuel+1,D,_=>by
  rw[Kl];unfold Vs
  have k:j=c.buses.l.length:=by omega
  rw[Tm,Ki (by omega),cf,Axl (by omega),k]
| m+1,j,fuel+1,D,I=>by
  rw[Kl];unfold Vs
  have h:j<c.buses.l.length:=by omega
  have b3:(ble (j+1) 140737488355328&&ble ((j+1)*16) 140737488355328)=true:=by rw[Ey,Ey];simp;omega
  have b4:take (j*1) (G6 ((c.buses.l.take j).map (·.name)))++[.str c.buses.l[j].name]=G6 ((c.buses.l.take (j+1)).map (·.name)):=by
   rw[Axl (by simp[Rs];omega),Ax5 h,Azw];simp[G6]
  have G:∀ f:Lu->O R,ue (drop (j*3) (List.flatMap BusD.av c.buses.l)) f=f c.buses.l[j].name:=fun f=>by rw[Bh IV _ _ h];simp[BusD.av,CP]
  rw[Tm,Jo h,ct,Tm,Aa h,ct,Axm,G,b3,ct,b4,Fb (by omega),IW C m (j+1) fuel (by omega) (by omega)]
def Aco{N:Nat}{c:CaseD}{o:Bool}{K:Nat->LA->O R}(hs:Small c N):H7 N c.av o 1 K=K (c.buses.l.map (·.name)).length (G6 (c.buses.l.map (·.name))):=by
 rw[Iz];unfold Kr
 have:=IW (R:=R) (N:=N) (c:=c) (o:=o) (K:=K) hs.top.1 c.buses.l.length 0 N (by omega) hs.bus.1
 simpa[G6]using this
def IX{N:Nat}{c:CaseD}{o:Bool}{K:Nat->LA->O R}(C:c.lines.l.length<=1000000):∀(m j fuel:Nat),j+m=c.lines.l.length->m<fuel ->
  Km N K o c.av fuel j (j:Int) (G6 ((c.lines.l.take j).map (·.name)))=K c.lines.l.length (G6 (c.lines.l.map (·.name)))
|0,j,fuel+1,D,_=>by
  rw[Km];unfold Vt
  have k:j=c.lines.l.length:=by omega
  rw[P6,Ki (by omega),cf,Axl (by omega),k]
| m+1,j,fuel+1,D,I=>by
  rw[Km];unfold Vt
  have h:j<c.lines.l.length:=by omega
  have b3:(ble (j+1) 140737488355328&&ble ((j+1)*16) 140737488355328)=true:=by rw[Ey,Ey];simp;omega
  have b4:take (j*1) (G6 ((c.lines.l.take j).map (·.name)))++[.str c.lines.l[j].name]=G6 ((c.lines.l.take (j+1)).map (·.name)):=by
   rw[Axl (by simp[Rs];omega),Ax5 h,Azw];simp[G6]
  have G:∀ f:Lu->O R,ue (drop (j*12) (List.flatMap LineD.av c.lines.l)) f=f c.lines.l[j].name:=fun f=>by rw[Bh G5 _ _ h];simp[LineD.av,CP]
  rw[P6,Jo h,ct,P6,Aa h,ct,Axm,G,b3,ct,b4,Fb (by omega),IX C m (j+1) fuel (by omega) (by omega)]
def lE{N:Nat}{c:CaseD}{o:Bool}{K:Nat->LA->O R}(hs:Small c N):H7 N c.av o 2 K=K (c.lines.l.map (·.name)).length (G6 (c.lines.l.map (·.name))):=by
 rw[Iz];unfold Kr
 have:=IX (R:=R) (N:=N) (c:=c) (o:=o) (K:=K) hs.top.2.1 c.lines.l.length 0 N (by omega) hs.lin.1
 simpa[G6]using this
def IY{N:Nat}{c:CaseD}{o:Bool}{K:Nat->LA->O R}(C:c.units.l.length<=1000000):∀(m j fuel:Nat),j+m=c.units.l.length->m<fuel ->
  Kn N K o c.av fuel j (j:Int) (G6 ((c.units.l.take j).map (·.name)))=K c.units.l.length (G6 (c.units.l.map (·.name)))
|0,j,fuel+1,D,_=>by
  rw[Kn];unfold Vu
  have k:j=c.units.l.length:=by omega
  rw[CQ,Ki (by omega),cf,Axl (by omega),k]
| m+1,j,fuel+1,D,I=>by
  rw[Kn];unfold Vu
  have h:j<c.units.l.length:=by omega
  have b3:(ble (j+1) 140737488355328&&ble ((j+1)*16) 140737488355328)=true:=by rw[Ey,Ey];simp;omega
  have b4:take (j*1) (G6 ((c.units.l.take j).map (·.name)))++[.str c.units.l[j].name]=G6 ((c.units.l.take (j+1)).map (·.name)):=by
   rw[Axl (by simp[Rs];omega),Ax5 h,Azw];simp[G6]
  have G:∀ f:Lu->O R,ue (drop (j*22) (List.flatMap UnitD.av c.units.l)) f=f c.units.l[j].name:=fun f=>by rw[Bh O8 _ _ h];simp[UnitD.av,CP]
  rw[CQ,Jo h,ct,CQ,Aa h,ct,Axm,G,b3,ct,b4,Fb (by omega),IY C m (j+1) fuel (by omega) (by omega)]
def lF{N:Nat}{c:CaseD}{o:Bool}{K:Nat->LA->O R}(hs:Small c N):H7 N c.av o 3 K=K (c.units.l.map (·.name)).length (G6 (c.units.l.map (·.name))):=by
 rw[Iz];unfold Kr
 have:=IY (R:=R) (N:=N) (c:=c) (o:=o) (K:=K) hs.top.2.2.1 c.units.l.length 0 N (by omega) hs.uni.1
 simpa[G6]using this
def FF{N:Nat}{c:CaseD}{o:Bool}{K:Nat->LA->O R}(C:c.stores.l.length<=1000000):∀(m j fuel:Nat),j+m=c.stores.l.length->m<fuel ->
  Ko N K o c.av fuel j (j:Int) (G6 ((c.stores.l.take j).map (·.name)))=K c.stores.l.length (G6 (c.stores.l.map (·.name)))
|0,j,fuel+1,D,_=>by
  rw[Ko];unfold Vv
  have k:j=c.stores.l.length:=by omega
  rw[AC,Ki (by omega),cf,Axl (by omega),k]
| m+1,j,fuel+1,D,I=>by
  rw[Ko];unfold Vv
  have h:j<c.stores.l.length:=by omega
  have b3:(ble (j+1) 140737488355328&&ble ((j+1)*16) 140737488355328)=true:=by rw[Ey,Ey];simp;omega
  have b4:take (j*1) (G6 ((c.stores.l.take j).map (·.name)))++[.str c.stores.l[j].name]=G6 ((c.stores.l.take (j+1)).map (·.name)):=by
   rw[Axl (by simp[Rs];omega),Ax5 h,Azw];simp[G6]
  have G:∀ f:Lu->O R,ue (drop (j*9) (List.flatMap StoreD.av c.stores.l)) f=f c.stores.l[j].name:=fun f=>by rw[Bh Oe _ _ h];simp[StoreD.av,CP]
  rw[AC,Jo h,ct,AC,Aa h,ct,Axm,G,b3,ct,b4,Fb (by omega),FF C m (j+1) fuel (by omega) (by omega)]
def f5{N:Nat}{c:CaseD}{o:Bool}{K:Nat->LA->O R}(hs:Small c N):H7 N c.av o 4 K=K (c.stores.l.map (·.name)).length (G6 (c.stores.l.map (·.name))):=by
 rw[Iz];unfold Kr
 have:=FF (R:=R) (N:=N) (c:=c) (o:=o) (K:=K) hs.top.2.2.2.1 c.stores.l.length 0 N (by omega) hs.sto.1
 simpa[G6]using this
def PD{N:Nat}{c:CaseD}{o:Bool}{K:Nat->LA->O R}(C:c.ties.l.length<=1000000):∀(m j fuel:Nat),j+m=c.ties.l.length->m<fuel ->
  Kp N K o c.av fuel j (j:Int) (G6 ((c.ties.l.take j).map (·.name)))=K c.ties.l.length (G6 (c.ties.l.map (·.name)))
|0,j,fuel+1,D,_=>by
  rw[Kp];unfold Vw
  have k:j=c.ties.l.length:=by omega
  rw[VI,Ki (by omega),cf,Axl (by omega),k]
| m+1,j,fuel+1,D,I=>by
  rw[Kp];unfold Vw
  have h:j<c.ties.l.length:=by omega
  have b3:(ble (j+1) 140737488355328&&ble ((j+1)*16) 140737488355328)=true:=by rw[Ey,Ey];simp;omega
  have b4:take (j*1) (G6 ((c.ties.l.take j).map (·.name)))++[.str c.ties.l[j].name]=G6 ((c.ties.l.take (j+1)).map (·.name)):=by
   rw[Axl (by simp[Rs];omega),Ax5 h,Azw];simp[G6]
  have G:∀ f:Lu->O R,ue (drop (j*5) (List.flatMap TieD.av c.ties.l)) f=f c.ties.l[j].name:=fun f=>by rw[Bh Xd _ _ h];simp[TieD.av,CP]
  rw[VI,Jo h,ct,VI,Aa h,ct,Axm,G,b3,ct,b4,Fb (by omega),PD C m (j+1) fuel (by omega) (by omega)]
def sB{N:Nat}{c:CaseD}{o:Bool}{K:Nat->LA->O R}(hs:Small c N):H7 N c.av o 5 K=K (c.ties.l.map (·.name)).length (G6 (c.ties.l.map (·.name))):=by
 rw[Iz];unfold Kr
 have:=PD (R:=R) (N:=N) (c:=c) (o:=o) (K:=K) hs.top.2.2.2.2.1 c.ties.l.length 0 N (by omega) hs.tie.1
 simpa[G6]using this
def PE{N:Nat}{c:CaseD}{o:Bool}{K:Nat->LA->O R}(C:c.outs.l.length<=1000000):∀(m j fuel:Nat),j+m=c.outs.l.length->m<fuel ->
  Kq N K o c.av fuel j (j:Int) (G6 ((c.outs.l.take j).map (·.name)))=K c.outs.l.length (G6 (c.outs.l.map (·.name)))
|0,j,fuel+1,D,_=>by
  rw[Kq];unfold Vx
  have k:j=c.outs.l.length:=by omega
  rw[Zt,Ki (by omega),cf,Axl (by omega),k]
| m+1,j,fuel+1,D,I=>by
  rw[Kq];unfold Vx
  have h:j<c.outs.l.length:=by omega
  have b3:(ble (j+1) 140737488355328&&ble ((j+1)*16) 140737488355328)=true:=by rw[Ey,Ey];simp;omega
  have b4:take (j*1) (G6 ((c.outs.l.take j).map (·.name)))++[.str c.outs.l[j].name]=G6 ((c.outs.l.take (j+1)).map (·.name)):=by
   rw[Axl (by simp[Rs];omega),Ax5 h,Azw];simp[G6]
  have G:∀ f:Lu->O R,ue (drop (j*4) (List.flatMap OutD.av c.outs.l)) f=f c.outs.l[j].name:=fun f=>by rw[Bh Of _ _ h];simp[OutD.av,CP]
  rw[Zt,Jo h,ct,Zt,Aa h,ct,Axm,G,b3,ct,b4,Fb (by omega),PE C m (j+1) fuel (by omega) (by omega)]
def sC{N:Nat}{c:CaseD}{o:Bool}{K:Nat->LA->O R}(hs:Small c N):H7 N c.av o 6 K=K (c.outs.l.map (·.name)).length (G6 (c.outs.l.map (·.name))):=by
 rw[Iz];unfold Kr
 have:=PE (R:=R) (N:=N) (c:=c) (o:=o) (K:=K) hs.top.2.2.2.2.2 c.outs.l.length 0 N (by omega) hs.out.1
 simpa[G6]using this
def T0{N:Nat}{L:List Lu}{k:Int}{n:Nat}{K:LA->O R}(hn:n<L.length)(hs:n<4611686018427387904):∀(m j fuel:Nat)(p:Jb),j+m=n->m<fuel ->
  Df N K k (n:Int) L.length (G6 L) fuel (j:Int) (C0 p)=K (C0 (nd p (((L.take n).drop j).all fun x=>!(x==L[n])) (k,n,0) ⟨10,by decide⟩))
|0,j,fuel+1,p,C,_=>by
  rw[Df];unfold If
  rw[Ki (by omega),cf,Hw (l:=L.take n) (by simp;omega),A2m,NC]
|m+1,j,fuel+1,p,C,G=>by
  rw[Df];unfold If
  have h:j<L.length:=by omega
  have D:j<(L.take n).length:=by simp;omega
  rw[Jo (by omega),ct,Aa h,ct,Axm,Ax0,Ax4,sA h,Aa hn,ct,Axm,Ax0,Ax4,sA hn,Af (by decide),Fb (by omega),T0 hn hs m (j+1) fuel _ (by omega) (by omega),Fo D,Az3,Acl]
  have e:(L.take n)[j]=L[j]:=by simp
  rw[e]
def Du{N:Nat}{c:CaseD}{L:List Lu}{o:Bool}{p:Jb}{k:Int}{n:Nat}{K:LA->O R}(hN:64<=N)(hL:∀ K:Nat->LA->O R,H7 N c.av o k K=K L.length (G6 L))(hn:n<L.length)(hs:Q3 n N):
  Co N c.av o k (n:Int) (C0 p) K=K (C0 (fZ (L.take n) k n L[n] p)):=by
 rw[Wp];unfold Mt
 rw[Fu,Oh,ct,hL,Aa hn,ct,Axm,Ax0,Ax4,sA hn,uB hN,Af (by decide)]
 have:=T0 (R:=R) (N:=N) (L:=L) (k:=k) (n:=n) (K:=K) hn hs.2 n 0 N (nd p (yu L[n]) (k,n,0) ⟨9,by decide⟩) (by omega) hs.1
 simpa[fZ]using this
def NG {N fuel:Nat} {c:CaseD} {o:Bool} {p:Jb} {K:LA->O R} (hs:Small c N):Bb N K o c.av (fuel+6) 2 (C0 p)=K (C0
  (nd (nd (nd (nd (nd p (decide ((c.lines.l.length:Int)<=64)) (0,0,3) e8) (decide ((c.units.l.length:Int)<=16)) (0,0,4) e8) (decide ((c.stores.l.length:Int)<=8)) (0,0,5) e8) (decide ((c.ties.l.length:Int)<=8)) (0,0,6) e8) (decide ((c.outs.l.length:Int)<=64)) (0,0,7) e8)):=by
 have most:∀(k:Nat)(n:Int)(K:Int->O R),k<7->([0,32,64,16,8,8,64]:List Int)[k]?=some n->Sg N (k:Int) K=K n:=by
  intro k n K C D
  rw[cZ];unfold hI
  rw[Aa C,ct]
  have e:[.int .i64 (0:Int),.int .i64 (32:Int),.int .i64 (64:Int),.int .i64 (16:Int),.int .i64 (8:Int),.int .i64 (8:Int),.int .i64 (64:Int)]=Aj [0,32,64,16,8,8,64]:=rfl
  rw[e,Axm,Ax0,Ax4,TA (by simpa using C)]
  rw[Axn (by simpa using C)]at D
  simp only[Az1]at D
  rw[D]
 have m2:∀ K:Int->O R,Sg N 2 K=K 64:=fun K=>most 2 64 K (by omega) rfl
 have m3:∀ K:Int->O R,Sg N 3 K=K 16:=fun K=>most 3 16 K (by omega) rfl
 have m4:∀ K:Int->O R,Sg N 4 K=K 8:=fun K=>most 4 8 K (by omega) rfl
 have m5:∀ K:Int->O R,Sg N 5 K=K 8:=fun K=>most 5 8 K (by omega) rfl
 have m6:∀ K:Int->O R,Sg N 6 K=K 64:=fun K=>most 6 64 K (by omega) rfl
 have G:wrap .i64 (2+1)=3:=rfl
 have w3:wrap .i64 (3+1)=4:=rfl
 have I:wrap .i64 (4+1)=5:=rfl
 have L:wrap .i64 (5+1)=6:=rfl
 have T:wrap .i64 (6+1)=7:=rfl
 rw[Bb];unfold B4
 rw[show decide ((2:Int)<=6)=true from rfl,ct,Oh,ct,Fu,lE hs,m2,Af (by decide),G]
 rw[Bb];unfold B4
 rw[show decide ((3:Int)<=6)=true from rfl,ct,Oh,ct,Fu,lF hs,m3,Af (by decide),w3]
 rw[Bb];unfold B4
 rw[show decide ((4:Int)<=6)=true from rfl,ct,Oh,ct,Fu,f5 hs,m4,Af (by decide),I]
 rw[Bb];unfold B4
 rw[show decide ((5:Int)<=6)=true from rfl,ct,Oh,ct,Fu,sB hs,m5,Af (by decide),L]
 rw[Bb];unfold B4
 rw[show decide ((6:Int)<=6)=true from rfl,ct,Oh,ct,Fu,sC hs,m6,Af (by decide),T]
 rw[Bb];unfold B4
 rw[show decide ((7:Int)<=6)=false from rfl,cf]
 simp only[Azv]
def NH{N:Nat}{c:CaseD}{o:Bool}{p:Jb}{K:LA->O R}(hs:Small c N):Ic N c.av o (C0 p) K=K (C0 (Afm c p)):=by
 have hN:=hs.n64
 rw[Tq];unfold Ks
 have:=fun p=>NG (fuel:=N - 6) (o:=o) (p:=p) (K:=K) hs
 rw[show N - 6+6=N by omega]at this
 simp only[IU,D1 (show 8<=N by omega),Af (show(3:Int)≠0 by decide),Af (show(8:Int)≠0 by decide),Oh,ct,Fu,Afk,Tm,Ee rfl hs.res,this]
 rfl
def GB{p:Jb}{f:Int->O R}:Aq .i64 (drop 3 (C0 p)) f=f (Hx p):=by rcases p with _|⟨⟨a,b,k⟩,e,C⟩<;>simp[C0,Anj,Av,Hx]
def Mm{N:Nat}{i:Int}{u:UnitD}{o:Bool}{p:Jb}{K:LA->O R}(hs:u.segs.l.length<4611686018427387904):∀(m j fuel:Nat)(a:Int),j+m=u.segs.l.length->m<fuel ->
  Cz N K i (C0 p) o u.av fuel a (j:Int)=K (C0 (nd p (NE a (u.segs.l.drop j)==wrap .i64 (u.max - u.min)) (3,i,4) e4))
| 0,j,fuel+1,a,C,_=>by
  rw[Cz];unfold Fr
  simp only[jJ,Aqd,Aqe,GB,Af (show(4:Int)≠0 by decide)]
  rw[Ki (by omega),Hw (l:=u.segs.l) (by omega),NE,NC]
  rcases p with _|⟨x,e,k⟩
  ·simp[Hx]
  ·have:(e != 0)=true:=by simpa using k
   simp[Hx,this,nd]
| m+1,j,fuel+1,a,C,I=>by
  rw[Cz];unfold Fr
  have h:j<u.segs.l.length:=by omega
  simp only[jJ,Aqd,Aqe,GB,Af (show(4:Int)≠0 by decide),Ajz h,Aa h]
  rw[Jo h,Fb (by omega),Mm hs m (j+1) fuel _ (by omega) (by omega),Fo h,NE,NC]
  rcases p with _|⟨x,e,k⟩
  ·simp[Hx]
  ·have D:(e != 0)=true:=by simpa using k
   have G:(e==0)=false:=by simpa using k
   simp[Hx,D,G,nd]
def T1{N:Nat}{i:Int}{u:UnitD}{o:Bool}{K:LA->O R}(hs:Q3 u.segs.l.length N):∀(m j fuel:Nat)(p:Jb),j+1+m=u.segs.l.length->m<fuel ->
  B7 N K i o u.av fuel ((j+1:Nat):Int) (C0 p)=K (C0 (nd (nd p (TL (u.segs.l.drop j)) (3,i,4) An8) (NE 0 u.segs.l==wrap .i64 (u.max - u.min)) (3,i,4) e4))
|0,j,fuel+1,p,k,_=>by
  rw[B7];unfold Dy
  rw[jJ,Ki (by omega),cf,Fo (l:=u.segs.l) (j:=j) (by omega),Hw (l:=u.segs.l) (j:=j+1) (by omega),rz,NC]
  have:=Mm (R:=R) (N:=N) (i:=i) (u:=u) (o:=o) (p:=p) (K:=K) hs.2 u.segs.l.length 0 N 0 (by omega) hs.1
  simpa using this
|m+1,j,fuel+1,p,k,D=>by
  rw[B7];unfold Dy
  have h:j+1<u.segs.l.length:=by omega
  have h':j<u.segs.l.length:=by omega
  have C:=hs.2
  simp only[jJ]
  rw[Jo h,ct,Aa h,ct,wB h,rt (by omega),Aa h',ct,wB h',Fb (by omega),Af (by decide),T1 hs m (j+1) fuel _ (by omega) (by omega),Fo h',Fo h,NF,Acl]
def T2{N:Nat}{i:Int}{u:UnitD}{o:Bool}{K:LA->O R}(hN:8<=N)(hs:Q3 u.segs.l.length N):∀(m j fuel:Nat)(p:Jb),j+m=u.segs.l.length->m<fuel ->
  B8 N K i (u.segs.l.flatMap SegD.av) u.segs.l.length o u.av fuel (u.segs.l.length:Int) (j:Int) (C0 p) =
   K (C0 (nd (nd (nd p ((u.segs.l.drop j).all Ed) (3,i,4) e3) (TL u.segs.l) (3,i,4) An8) (NE 0 u.segs.l==wrap .i64 (u.max - u.min)) (3,i,4) e4))
| 0,j,fuel+1,p,C,_=>by
  rw[B8];unfold Fs
  rw[Ki (by omega),cf,Hw (l:=u.segs.l) (by omega),A2m,NC]
  rcases k:u.segs.l with _|⟨b,r⟩
  ·rw[Acm,NC]
   have l2:=Mm (R:=R) (N:=N) (i:=i) (u:=u) (o:=o) (p:=p) (K:=K) hs.2 u.segs.l.length 0 N 0 (by omega) hs.1
   rcases N with _|N
   ·omega
   ·rw[B7];unfold Dy
    rw[jJ,k]
    simp only[Az4,A0h]
    rw[show decide ((1:Int)<0)=false by decide,cf]
    rw[k]at l2
    simpa using l2
  ·have:=T1 (R:=R) (N:=N) (i:=i) (u:=u) (o:=o) (K:=K) hs r.length 0 N p (by rw[k];simp;omega) (by have:=hs.1;rw[k]at this;simp at this;omega)
   rw[k]at this
   simpa using this
|m+1,j,fuel+1,p,C,G=>by
  rw[B8];unfold Fs
  have h:j<u.segs.l.length:=by omega
  have D:=hs.2
  rw[Jo h,ct,Aa h,ct,Axm,Bh CS _ _ h,Fo h,Az3,Fb (by omega)]
  have b1:ble 2 (List.length (u.segs.l[j].av++List.flatMap SegD.av (drop (j+1) u.segs.l)))=true:=by rw[Ey,Ax1,CS];simp
  have b2:take 2 (u.segs.l[j].av++List.flatMap SegD.av (drop (j+1) u.segs.l))=u.segs.l[j].av:=Az6 (CS _)
  rw[b1,ct,b2,CS]
  simp only[SegD.av,setCells,Dd,A0e,Ay5,A4b,Ay2,Ayh,A0k,Ayb,Az4,Av,Ey,yp,A9,Nat.reduceAdd,decide_true,A0p,A0b,Az2,cond_true,Ax0,Axo,D1 hN,Af (show(3:Int)≠0 by decide),T2 hN hs m (j+1) fuel _ (show j+1+m=_ by omega) (show m<fuel by omega)]
  unfold Ed
  rw[Acl,Acl]
  cases Fc 1 1048576 u.segs.l[j].width<;>rfl
def CZ{N:Nat}{p:Jb}{j:Nat}{u:UnitD}{o:Bool}{K:LA->O R}(hN:8<=N)(hs:Q3 u.segs.l.length N):
  D9 N u.av o (j:Int) (C0 p) K=K (C0 (Ank u j p)):=by
 rw[Pw];unfold Hs
 simp only[jJ,Af (show(8:Int)≠0 by decide)]
 have:=T2 (R:=R) (N:=N) (i:=j) (u:=u) (o:=o) (K:=K) hN hs u.segs.l.length 0 N (nd p (decide ((u.segs.l.length:Int)<=8)) (3,j,4) e8) (by omega) hs.1
 simpa[Ank]using this
def Xe{N:Nat}{i:Int}{l:List MoveD}{o:Bool}{K:LA->O R}(hN:8<=N)(hs:l.length<4611686018427387904):∀(m j fuel:Nat)(p:Jb),j+m=l.length->m<fuel ->
  Ds N K i (l.flatMap MoveD.av) l.length o fuel (l.length:Int) (j:Int) (C0 p)=K (C0 (nd p ((l.drop j).all Aj0) (6,i,3) e3))
|0,j,fuel+1,p,k,_=>by
  rw[Ds];unfold Gs
  rw[Ki (by omega),cf,Hw (by omega),A2m,NC]
|m+1,j,fuel+1,p,k,C=>by
  rw[Ds];unfold Gs
  have h:j<l.length:=by omega
  rw[Jo h,ct,Aa h,ct,Axm,Bh O9 _ _ h,Fo h,Az3,Fb (by omega)]
  have b1:ble 3 (List.length (l[j].av++List.flatMap MoveD.av (drop (j+1) l)))=true:=by rw[Ey,Ax1,O9];simp
  have b2:take 3 (l[j].av++List.flatMap MoveD.av (drop (j+1) l))=l[j].av:=Az6 (O9 _)
  rw[b1,ct,b2,O9]
  simp only[MoveD.av,setCells,Dd,A0e,Ay5,A4b,Ay2,Ayh,A0k,Ayb,Az4,Av,Ey,yp,A9,Nat.reduceAdd,decide_true,A0p,A0b,Az2,cond_true,Ax0,Axo,mo hN,Af (show(3:Int)≠0 by decide),Xe hN hs m (j+1) fuel _ (show j+1+m=_ by omega) (show m<fuel by omega)]
  rw[Acl];rfl
def Xf{N:Nat}{c:CaseD}{i:Int}{u:OutD}{o:Bool}{p:Jb}{K:LA->O R}(hN:8<=N)(k:c.units.l.length<=1000000)(hs:Q3 u.moves.l.length N)(C:u.moves.l.length<8796093022208):∀(m j fuel:Nat),j+m=u.moves.l.length->m<fuel ->
  Dt N K i (u.moves.l.flatMap MoveD.av) u.moves.l.length o (C0 p) c.av u.av fuel j (u.moves.l.length:Int) (j:Int) (Aj ((u.moves.l.take j).map (·.unit))) =
   K (C0 (nd (nd (nd p (u.moves.l.all (Ao8 c)) (6,i,3) Ad5) (asc (u.moves.l.map (·.unit))) (6,i,3) An8) (u.moves.l.all Aj0) (6,i,3) e3))
| 0,j,fuel+1,D,_=>by
  rw[Dt];unfold Gt
  have G:j=u.moves.l.length:=by omega
  rw[Ki (by omega),cf,Ax4,Axl (by simp[Io];omega),Axl (show u.moves.l.length<=j by omega)]
  rw[CQ,G4 (by simp;omega) (by simpa using hs),Af (by decide),Xx (by simp;omega) (by simpa using hs),Af (by decide),Aha]
  have:=Xe (R:=R) (N:=N) (i:=i) (l:=u.moves.l) (o:=o) (K:=K) hN hs.2 u.moves.l.length 0 N (nd (nd p (u.moves.l.all (Ao8 c)) (6,i,3) Ad5) (asc (u.moves.l.map (·.unit))) (6,i,3) An8) (by omega) hs.1
  have e:(u.moves.l.map (·.unit)).all (Fc 0 (wrap .i64 ((c.units.l.length:Int) - 1)))=u.moves.l.all (Ao8 c):=by
   rw[List.all_map];congr 1;funext m;exact Afl _ _ (by omega)
  rw[e]
  simpa using this
| m+1,j,fuel+1,D,I=>by
  rw[Dt];unfold Gt
  have h:j<u.moves.l.length:=by omega
  have b1:ble 3 (List.length (u.moves.l[j].av++List.flatMap MoveD.av (drop (j+1) u.moves.l)))=true:=by rw[Ey,Ax1,O9];simp
  have b2:take 3 (u.moves.l[j].av++List.flatMap MoveD.av (drop (j+1) u.moves.l))=u.moves.l[j].av:=Az6 (O9 _)
  have b3:(decide (j<=140737488355327)&&decide ((j+1)*8<=140737488355328))=true:=by simp;omega
  have b4:take (j*1) (Aj ((u.moves.l.take j).map (·.unit)))++[.int .i64 u.moves.l[j].unit]=Aj ((u.moves.l.take (j+1)).map (·.unit)):=by
   rw[Axl (by simp[Io];omega),Ax5 h,Azw,<-lC];rfl
  rw[Jo h,ct,Aa h,ct,Axm,Bh O9 _ _ h,Fb (by omega),b1,ct,b2,O9]
  simp only[MoveD.av,setCells,Dd,A0e,Ay5,A4b,Ay2,A0k,Ayb,Az4,Av,Ey,yp,A9,Nat.reduceAdd,Nat.reduceLeDiff,decide_true,A0p,A0b,Az2,cond_true,Ax0,Axo,b3,b4,Xf hN k hs C m (j+1) fuel (show j+1+m=_ by omega) (show m<fuel by omega)]
def TM{N:Nat}{c:CaseD}{p:Jb}{o:Bool}{j:Nat}{K:LA->O R}(hs:Small c N)(h:j<c.ties.l.length):
  Qa N c.av o (j:Int) (C0 p) K=K (C0 (Ao7 c j c.ties.l[j] p)):=by
 have hN:=hs.n64
 have hN8:8<=N:=by omega
 have C:=hs.tie
 have Y:=hs.top
 have G:c.ties.l[j]∈c.ties.l:=Axv h
 have hd:=hs.tim _ G;have I:=hs.tex _ G;have L:=hs.tpr _ G
 have D:=@Du R N c (c.ties.l.map (·.name)) o (k:=5) (n:=j) (hN:=hN) (hL:=fun K=>sB hs) (hn:=by simpa using h) (hs:=⟨by have:=C.1;omega,by have:=C.2;omega⟩)
 have T:(c.ties.l.map (·.name))[j]'(by simpa using h)=c.ties.l[j].name:=by simp
 rw[T]at D
 rw[Yb];unfold Uv 
 rw[VI,Aa h,ct,Axm,Bh Xd _ _ h]
 generalize c.ties.l[j]=b at *
 have b1:ble 5 (List.length (b.av++List.flatMap TieD.av (drop (j+1) c.ties.l)))=true:=by rw[Ey,Ax1,Xd];simp
 have b2:take 5 (b.av++List.flatMap TieD.av (drop (j+1) c.ties.l))=b.av:=Az6 (Xd b)
 rw[b1,ct,b2,Xd]
 simp only[Fu,D,TieD.av,Ay2,Ayh,Av,H0,Fm,Ey,yp,decide_true,A0p,cond_true]
 simp only[Iq hN8 (show c.buses.l.length<4611686018427387904 by omega),Ee rfl hd,Ee rfl I,Ee rfl L]
 rfl
def NI{N:Nat}{c:CaseD}{p:Jb}{o:Bool}{j:Nat}{K:LA->O R}(hs:Small c N)(h:j<c.stores.l.length):
  Mx N c.av o (j:Int) (C0 p) K=K (C0 (ry c j c.stores.l[j] p)):=by
 have hN:=hs.n64
 have hN8:8<=N:=by omega
 have C:=hs.sto
 have I:=hs.top
 have L:c.stores.l[j]∈c.stores.l:=Axv h
 skip
 have D:=@Du R N c (c.stores.l.map (·.name)) o (k:=4) (n:=j) (hN:=hN) (hL:=fun K=>f5 hs) (hn:=by simpa using h) (hs:=⟨by have:=C.1;omega,by have:=C.2;omega⟩)
 have G:(c.stores.l.map (·.name))[j]'(by simpa using h)=c.stores.l[j].name:=by simp
 rw[G]at D
 rw[Tr];unfold Qt 
 rw[AC,Aa h,ct,Axm,Bh Oe _ _ h]
 generalize c.stores.l[j]=b at *
 have b1:ble 9 (List.length (b.av++List.flatMap StoreD.av (drop (j+1) c.stores.l)))=true:=by rw[Ey,Ax1,Oe];simp
 have b2:take 9 (b.av++List.flatMap StoreD.av (drop (j+1) c.stores.l))=b.av:=Az6 (Oe b)
 rw[b1,ct,b2,Oe]
 simp only[Fu,D,StoreD.av,Ay2,Ayh,A1p,A0k,Ayb,Az4,Av,Ey,yp,A9,Nat.reduceAdd,decide_true,A0p,A0b,cond_true,Ax0,Axo]
 simp only[Iq hN8 (show c.buses.l.length<4611686018427387904 by omega),D1 hN8,Af (show(3:Int)≠0 by decide),FE hN8]
 unfold ry;cases Q4 b.eff<;>cases decide (b.eff.num>0)<;>rfl
def PY{N:Nat}{c:CaseD}{p:Jb}{o:Bool}{j:Nat}{K:LA->O R}(hs:Small c N)(h:j<c.lines.l.length):
  Jr N c.av o (j:Int) (C0 p) K=K (C0 (vz c j c.lines.l[j] p)):=by
 have hN:=hs.n64
 have hN8:8<=N:=by omega
 have C:=hs.lin
 have I:=hs.top
 have L:c.lines.l[j]∈c.lines.l:=Axv h
 have T:=hs.law _ L
 have D:=@Du R N c (c.lines.l.map (·.name)) o (k:=2) (n:=j) (hN:=hN) (hL:=fun K=>lE hs) (hn:=by simpa using h) (hs:=⟨by have:=C.1;omega,by have:=C.2;omega⟩)
 have G:(c.lines.l.map (·.name))[j]'(by simpa using h)=c.lines.l[j].name:=by simp
 rw[G]at D
 rw[Wr];unfold Mv Jf Ns Pi Nr Ph
 rw[P6,Aa h,ct,Axm,Bh G5 _ _ h]
 generalize c.lines.l[j]=b at *
 have b1:ble 12 (List.length (b.av++List.flatMap LineD.av (drop (j+1) c.lines.l)))=true:=by rw[Ey,Ax1,G5];simp
 have b2:take 12 (b.av++List.flatMap LineD.av (drop (j+1) c.lines.l))=b.av:=Az6 (G5 b)
 rw[b1,ct,b2,G5]
 simp only[Fu,D,LineD.av,Ay2,Ayh,A1p,A0k,Ayb,Az4,Av,H0,Fm,Ey,yp,A9,Nat.reduceAdd,Nat.reduceLeDiff,decide_true,A0p,A0b,cond_true,Ax0]
 simp only[Iq hN8 (show c.buses.l.length<4611686018427387904 by omega),D1 hN8,Af (show(1:Int)≠0 by decide),Af (show(3:Int)≠0 by decide),FE hN8,Tz rfl T]
 unfold vz;rw[show(b.fr != b.tl)=(b.tl != b.fr) by simp[bne,BEq.comm (a:=b.fr)]];cases Q4 b.re<;>cases Q4 b.smin<;>cases Q4 b.smax<;>rfl
def Ahb(c:CaseD)(j:Nat)(u:UnitD)(p:Jb):Jb :=
 let p:=fZ ((c.units.l.map (·.name)).take j) 3 j u.name p
 let p:=nd p (lD c u.bus) (3,j,1) Ad5
 let p:=nd p (Fc 0 1048576 u.min) (3,j,2) e3
 let p:=nd p (Fc u.min 1048576 u.max) (3,j,3) e3
 let p:=Ank u j p
 let p:=nd p (Fc 0 1048576 u.noLoad) (3,j,5) e3
 let p:=nd p (Fc 0 1048576 u.rampUp) (3,j,6) e3
 let p:=nd p (Fc 0 1048576 u.rampDown) (3,j,7) e3
 let p:=nd p (Fc u.min u.max u.startRamp) (3,j,8) e3
 let p:=nd p (Fc u.min u.max u.stopRamp) (3,j,9) e3
 let p:=nd p (Fc 0 24 u.upTime) (3,j,10) e3
 nd p (Fc 0 24 u.downTime) (3,j,11) e3
def Anl(c:CaseD)(j:Nat)(u:UnitD)(p:Jb):Jb :=
 let p:=nd p (Fc 0 24 u.startTime) (3,j,12) e3
 let p:=nd p (Fc 0 1048576 u.hotCost) (3,j,13) e3
 let p:=nd p (Fc 0 1048576 u.coldCost) (3,j,14) e3
 let p:=nd p (Fc 0 24 u.hotHours) (3,j,15) e3
 let p:=nd p (Fc 0 1048576 u.reserve) (3,j,16) e3
 let p:=nd p (Fc 0 1048576 u.reservePrice) (3,j,17) e3
 let p:=rx c.hours u.away.l (3,j,18) p
 let p:=nd p (Fc 0 2 u.state) (3,j,19) Ad5
 let p:=nd p (u.state != 1||decide (u.startTime>0)) (3,j,19) An9
 let p:=nd p (Fc 1 48 u.hours) (3,j,20) e3
 let p:=nd p (u.state != 1||decide (u.hours<=u.startTime)) (3,j,20) e3
 cond (u.state==2) (nd p (Fc u.min u.max u.output) (3,j,21) e3) (nd p (u.output==0) (3,j,21) e3)
def Atx(n:Int):Fc 0 0 n=(n==0):=by
 unfold Fc
 by_cases h:n=0
 ·simp[h]
 ·have:(n==0)=false:=by simpa using h
  rw[this];simp;omega
def Apa{c:CaseD}{j:Nat}{u:UnitD}{p:Jb}:Anl c j u (Ahb c j u p)=Acn c j u p:=by
 show _=(let p:=nd (Ahb c j u p) (Fc 0 24 u.startTime) (3,j,12) e3
  let p:=nd p (Fc 0 1048576 u.hotCost) (3,j,13) e3
  let p:=nd p (Fc 0 1048576 u.coldCost) (3,j,14) e3
  let p:=nd p (Fc 0 24 u.hotHours) (3,j,15) e3
  let p:=nd p (Fc 0 1048576 u.reserve) (3,j,16) e3
  let p:=nd p (Fc 0 1048576 u.reservePrice) (3,j,17) e3
  let p:=rx c.hours u.away.l (3,j,18) p
  let p:=nd p (Fc 0 2 u.state) (3,j,19) Ad5
  let p:=nd p (u.state != 1||u.startTime != 0) (3,j,19) An9
  let p:=nd p (Fc 1 48 u.hours) (3,j,20) e3
  let p:=nd p (u.state != 1||decide (u.hours<=u.startTime)) (3,j,20) e3
  cond (u.state==2) (nd p (Fc u.min u.max u.output) (3,j,21) e3) (nd p (Fc 0 0 u.output) (3,j,21) e3))
 unfold Anl
 rw[Atx]
 cases hq:nd (Ahb c j u p) (Fc 0 24 u.startTime) (3,(j:Int),12) e3 with
|some x=>simp only[Ao5,rx]
| none =>
  have k:Fc 0 24 u.startTime=true:=by
   cases C:Fc 0 24 u.startTime with
   |true=>rfl
   |false =>
    rw[C]at hq
    cases D:Ahb c j u p<;>rw[D]at hq<;>simp[nd]at hq
  have:decide (u.startTime>0)=(u.startTime != 0):=by
   unfold Fc at k
   simp at k
   by_cases h:u.startTime=0
   ·simp[h]
   ·have G:(u.startTime != 0)=true:=by simpa using h
    rw[G];simp;omega
  rw[this]
def PZ{N:Nat}{c:CaseD}{p:Jb}{o:Bool}{j:Nat}{K:LA->O R}(hs:Small c N)(h:j<c.units.l.length):
  Jt N c.av o (j:Int) (C0 p) K=K (C0 (Acn c j c.units.l[j] p)):=by
 have hN:=hs.n64
 have hN8:8<=N:=by omega
 have C:=hs.uni
 have T:=hs.top
 have Y:c.units.l[j]∈c.units.l:=Axv h
 have hd:=hs.seg _ Y;have G:=hs.uaw _ Y
 have D:=@Du R N c (c.units.l.map (·.name)) o (k:=3) (n:=j) (hN:=hN) (hL:=fun K=>lF hs) (hn:=by simpa using h) (hs:=⟨by have:=C.1;omega,by have:=C.2;omega⟩)
 have I:(c.units.l.map (·.name))[j]'(by simpa using h)=c.units.l[j].name:=by simp
 rw[I]at D
 rw[Ws];unfold Mw Jg Nt Pk
 rw[CQ,Aa h,ct,Axm,Bh O8 _ _ h]
 generalize c.units.l[j]=b at *
 have b1:ble 22 (List.length (b.av++List.flatMap UnitD.av (drop (j+1) c.units.l)))=true:=by rw[Ey,Ax1,O8];simp
 have b2:take 22 (b.av++List.flatMap UnitD.av (drop (j+1) c.units.l))=b.av:=Az6 (O8 b)
 rw[b1,ct,b2,O8]
 have L:∀(p:Jb)(K:LA->O R),D9 N [.str b.name,.int .i64 b.bus,.int .i64 b.min,.int .i64 b.max,b.segs.av 2 SegD.av,.int .i64 b.noLoad,.int .i64 b.rampUp,.int .i64 b.rampDown,.int .i64 b.startRamp,.int .i64 b.stopRamp,.int .i64 b.upTime,.int .i64 b.downTime,.int .i64 b.startTime,.int .i64 b.hotCost,.int .i64 b.coldCost,.int .i64 b.hotHours,.int .i64 b.reserve,.int .i64 b.reservePrice,b.away.av 1 CM,.int .i64 b.state,.int .i64 b.hours,.int .i64 b.output] o j (C0 p) K=K (C0 (Ank b j p)):=fun p K=>CZ hN8 hd
 simp only[Fu,D,UnitD.av,Ay2,Ayh,A1p,A0k,Av,H0,Fm,Ey,yp,decide_true,A0p,cond_true,cond_false,Axo]
 simp only[Iq hN8 (show c.buses.l.length<4611686018427387904 by omega),D1 hN8,Af (show(3:Int)≠0 by decide),Af (show(12:Int)≠0 by decide),Af (show(16:Int)≠0 by decide),L,Tz rfl G]
 rw[<-Apa]
 unfold Anl
 by_cases s1:b.state=1
 ·simp[s1];rfl
 ·have a4:(b.state != 1)=true:=by simpa using s1
  rw[a4]
  cases b.state==2<;>rfl
def IZ{N:Nat}{c:CaseD}{p:Jb}{o:Bool}{j:Nat}{K:LA->O R}(hs:Small c N)(h:j<c.outs.l.length):
  Hf N c.av o (j:Int) (C0 p) K=K (C0 (Aj1 c j c.outs.l[j] p)):=by
 have hN:=hs.n64
 have hN8:8<=N:=by omega
 have C:=hs.out
 have D:=hs.top
 have L:c.outs.l[j]∈c.outs.l:=Axv h
 have hd:=hs.oli _ L;have G:=hs.omo _ L;have T:=hs.omb _ L
 have I:=@Du R N c (c.outs.l.map (·.name)) o (k:=6) (n:=j) (hN:=hN) (hL:=fun K=>sC hs) (hn:=by simpa using h) (hs:=⟨by have:=C.1;omega,by have:=C.2;omega⟩)
 have Y:(c.outs.l.map (·.name))[j]'(by simpa using h)=c.outs.l[j].name:=by simp
 rw[Y]at I
 rw[Sj];unfold Jh Ht Ku
 rw[Zt,Aa h,ct,Axm,Bh Of _ _ h]
 generalize c.outs.l[j]=b at *
 have b1:ble 4 (List.length (b.av++List.flatMap OutD.av (drop (j+1) c.outs.l)))=true:=by rw[Ey,Ax1,Of];simp
 have b2:take 4 (b.av++List.flatMap OutD.av (drop (j+1) c.outs.l))=b.av:=Az6 (Of b)
 rw[b1,ct,b2,Of]
 have l1:=fun p=>Xf (R:=R) (N:=N) (c:=c) (i:=j) (u:=b) (o:=o) (p:=p) (K:=K) hN8 D.2.2.1 G T b.moves.l.length 0 N (by omega) G.1
 simp only[A0k,A4r,A0h,Aj]at l1
 simp only[yp,decide_true,A0p,cond_true,Oh,Fu,I,Ao9,Aha,Arx,D1 hN8,G4 rfl hd,Xx rfl hd,P6,Af (show(4:Int)≠0 by decide),Af (show(8:Int)≠0 by decide),Af (show(11:Int)≠0 by decide),Af (show(12:Int)≠0 by decide),Af (show(16:Int)≠0 by decide),l1]
 have a1:Fc 1 2 (b.lines.l.length:Int)=((b.lines.l.length:Int)==1||(b.lines.l.length:Int)==2):=by
  unfold Fc
  by_cases x1:b.lines.l.length=1
  ·simp[x1]
  ·by_cases x2:b.lines.l.length=2
   ·simp[x2]
   ·have y1:((b.lines.l.length:Int)==1)=false:=by simp;omega
    have y2:((b.lines.l.length:Int)==2)=false:=by simp;omega
    rw[y1,y2];simp;omega
 have a2:b.lines.l.all (Fc 0 (wrap .i64 ((c.lines.l.length:Int) - 1)))=b.lines.l.all fun n=>decide (0<=n)&&decide (n<(c.lines.l.length:Int)):=by
  congr 1;funext n;exact Afl _ _ (by omega)
 rw[a1,a2]
 unfold Aj1 Afn
 cases b.corr
 ·simp
 ·simp
end
end Gx.Cf
namespace Gx.Cf
inductive Conn(es:List (Nat×Nat)):Nat->Nat->Prop
|refl (a:Nat):Conn es a a
|fwd {u v b:Nat}:(u,v)∈es->Conn es v b->Conn es u b
|bwd {u v b:Nat}:(u,v)∈es->Conn es u b->Conn es v b
def Conn.trans{es:List (Nat×Nat)}{a b c:Nat}(G:Conn es a b)(k:Conn es b c):Conn es a c:=by
 induction G with
|refl=>exact k
|fwd C _ D=>exact .fwd C (D k)
|bwd C _ D=>exact .bwd C (D k)
def Conn.symm{es:List (Nat×Nat)}{a b:Nat}(h:Conn es a b):Conn es b a:=by
 induction h with
|refl=>exact .refl _
|fwd k _ C=>exact C.trans (.bwd k (.refl _))
|bwd k _ C=>exact C.trans (.fwd k (.refl _))
def Conn.mono{es fs:List (Nat×Nat)}(hs:∀ e∈es,e∈fs){a b:Nat}(h:Conn es a b):Conn fs a b:=by
 induction h with
|refl=>exact .refl _
|fwd k _ C=>exact .fwd (hs _ k) C
|bwd k _ C=>exact .bwd (hs _ k) C
def lG(es:List (Nat×Nat))(b:Nat):Prop:=∀ a,a<b->¬ Conn es a b
open Classical in
noncomputable def Xg(n:Nat)(es:List (Nat×Nat)):Nat:=((List.range n).filter fun b=>decide (lG es b)).length
def Afo{n:Nat}{es fs:List (Nat×Nat)}(h:∀ e∈es,e∈fs):Xg n fs<=Xg n es:=by
 unfold Xg
 have:∀(l:List Nat),(l.filter fun b=>@decide (lG fs b) (Classical.propDecidable _)).length<=(l.filter fun b=>@decide (lG es b) (Classical.propDecidable _)).length:=by
  intro l
  induction l with
  |nil=>simp
  | cons a r k =>
   rw[A0q,A0q]
   by_cases x:lG fs a
   ·have:lG es a:=fun b C hc=>x b C (hc.mono h)
    simp[x,this,k]
   ·by_cases y:lG es a<;>simp[x,y]<;>omega
 exact this _
def P7(n:Nat):List Int:=(List.range n).map fun b:Nat=>(b:Int)
def wC{n a:Nat}(h:a<n):(P7 n).getD a 0=(a:Int):=by rw[Axu,P7,A0n,List.getElem?_range h];rfl
structure LeastOk(n:Nat)(es:List (Nat×Nat))(L:List Int):Prop where
 len:L.length=n
 low:∀ b,b<n->0<=L.getD b 0/\L.getD b 0<=b
 con:∀ b,b<n->Conn es (L.getD b 0).toNat b
def Ahc(es:List (Nat×Nat))(L:List Int):Prop:=∀ e∈es,L.getD e.1 0=L.getD e.2 0
def Apb(L:List Int):Nat:=((List.range L.length).filter fun b=>L.getD b 0==(b:Int)).length
def lH{n:Nat}{es:List (Nat×Nat)}{L:List Int}(h:LeastOk n es L)(G:Ahc es L)(I:∀ e∈es,e.1<n/\e.2<n):Apb L=Xg n es:=by
 unfold Apb Xg
 rw[h.len]
 congr 1
 apply List.filter_congr
 intro b C
 have C:b<n:=by simpa using C
 have conn_eq:∀ a b,Conn es a b->L.getD a 0=L.getD b 0:=by
  intro a b hc
  induction hc with
  |refl=>rfl
  |fwd k _ D=>exact(G _ k).trans D
  |bwd k _ D=>exact(G _ k).symm.trans D
 have T:=h.low b C
 by_cases x:L.getD b 0=(b:Int)
 ·have:lG es b:=fun a Y hc=>by
   have e:=conn_eq a b hc
   have:=(h.low a (by omega)).2
   omega
  have x':(L.getD b 0==(b:Int))=true:=by simpa using x
  rw[x'];simp[this]
 ·have x':(L.getD b 0==(b:Int))=false:=by simpa using x
  have:¬ lG es b:=fun k=>k (L.getD b 0).toNat (by omega) (h.con b C)
  rw[x'];simp[this]
end Gx.Cf
namespace Gx.Cf
open Go Go.Proofs
section
variable{R:Type}
def NJ{l:List Int}{j:Nat}(h:j<l.length):l.getD j 0=l[j]:=by rw[Axu,Axn h];rfl
def wD{x:Int}{n:Nat}(k:0<=x)(C:x.toNat<n):Ac x n=true:=by simp[Ac];omega
def Anm{l:List Int}{x:Int}(h:x.toNat<l.length){f:Int->O R}:Aq .i64 (drop (0+((Int.toNat x)*1)) (Aj l)) f=f (l.getD x.toNat 0):=by rw[Ax0,Ax4,TA h,NJ h]
def f6(l:List Int)(j:Nat)(v:Int):List.set (Aj l) j (.int .i64 v)=Aj (l.set j v):=by simp[Aj,A11]
def yv{l:List Int}{x:Nat}(h:x<l.length):((beq 1 1)&&((ble ((0+(x*1))+1) (List.length (Aj l)))&&(!false)))=true:=by rw[yp,Ey,Io];simp;omega
def H1(c:CaseD)(l:Int):Nat×Nat:=match c.lines.l[l.toNat]? with
|some x=>(x.fr.toNat,x.tl.toNat)
|none=>(0,0)
structure LnV(c:CaseD)(l:Int)(x:LineD):Prop where
 l0:0<=l
 lt:l.toNat<c.lines.l.length
 at':c.lines.l[l.toNat]?=some x
 f0:0<=x.fr
 f1:x.fr.toNat<c.buses.l.length
 t0:0<=x.tl
 t1:x.tl.toNat<c.buses.l.length
def Ahd{c:CaseD}{l:Int}{x:LineD}(h:LnV c l x):H1 c l=(x.fr.toNat,x.tl.toNat):=by unfold H1;rw[h.at']
def Aty{c:CaseD}{l:Int}{x:LineD}(h:LnV c l x){f:Int->O R}:Aq .i64 (drop 1 (drop ((Int.toNat l)*12) (c.lines.l.flatMap LineD.av))) f=f x.fr:=by
 have e:c.lines.l[l.toNat]'h.lt=x:=by have:=h.at';rw[Axn h.lt]at this;simpa using this
 rw[Bh G5 _ _ h.lt,e];simp[LineD.av,Av]
def Atz{c:CaseD}{l:Int}{x:LineD}(h:LnV c l x){f:Int->O R}:Aq .i64 (drop 2 (drop ((Int.toNat l)*12) (c.lines.l.flatMap LineD.av))) f=f x.tl:=by
 have e:c.lines.l[l.toNat]'h.lt=x:=by have:=h.at';rw[Axn h.lt]at this;simpa using this
 rw[Bh G5 _ _ h.lt,e];simp[LineD.av,Av]
def Afp{L:List Int}{n j:Nat}(C:L.length=n)(h:j<n):((P7 n).take j++L.drop j).set j (j:Int)=(P7 n).take (j+1)++L.drop (j+1):=by
 have hi:(P7 n).length=n:=by simp[P7]
 have e:(P7 n)[j]'(by omega)=(j:Int):=by simp[P7]
 have k:j - ((P7 n).take j).length=0:=by simp[hi];omega
 rw[A16 _ _ (by simp;omega),k,Ax5 (by omega),Fo (l:=L) (by omega),e,List.set_cons_zero,Azz];rfl
def jL(h:Int):List LineD->Nat->List Int
|[],_=>[]
|x::r,j=>cond (x.away.l.contains h) (jL h r (j+1)) ((j:Int)::jL h r (j+1))
def TN(h:Int):∀(l:List LineD)(j:Nat),(jL h l j).length<=l.length
|[],_=>by simp[jL]
|x::r,j=>by rw[jL];have:=TN h r (j+1);cases x.away.l.contains h<;>simp<;>omega
def Acp(h:Int):∀(l:List LineD)(j:Nat)(a:Int),a∈jL h l j->(j:Int)<=a/\a<j+l.length
|[],_,_,k=>by simp[jL]at k
| x::r,j,a,k=>by
  rw[jL]at k
  have C:=Acp h r (j+1) a
  cases D:x.away.l.contains h<;>rw[D]at k<;>simp at k
  ·rcases k with rfl|k
   ·simp;omega
   ·have:=C k;simp at this ⊢;omega
  ·have:=C k;simp at this ⊢;omega
def A5(c:CaseD)(h:Int):List Int:=jL h c.lines.l 0
def yw{A B:List Int}{n:Nat}(h:n=A.length):(take (n*1) (Aj A))++Aj B=Aj (A++B):=by rw[Ax4,Axl (by simp[Io,h]),lC]
def TO{N:Nat}{c:CaseD}{h:Int}{o:Bool}{K:Nat->LA->O R}(hs:Small c N):∀(m j fuel:Nat)(A:List Int),j+m=c.lines.l.length->m<fuel->A.length<=j ->
  Fh N K h o c.av fuel A.length (j:Int) (Aj A)=K (A++jL h (c.lines.l.drop j) j).length (Aj (A++jL h (c.lines.l.drop j) j))
|0,j,fuel+1,A,I,_,_=>by
  rw[Fh];unfold My
  rw[P6,Ki (by omega),cf,Hw (l:=c.lines.l) (by omega),jL,Ay5]
| m+1,j,fuel+1,A,I,hf,hA=>by
  rw[Fh];unfold My
  have k:j<c.lines.l.length:=by omega
  have G:=hs.top.2.1
  have L:c.lines.l[j]∈c.lines.l:=Axv k
  have T:=hs.law _ L
  simp only[P6]
  rw[Jo k,ct,Aa k,ct,Axm,Bh G5 _ _ k,Fo (l:=c.lines.l) k,jL]
  have C:=TO (N:=N) (c:=c) (h:=h) (o:=o) (K:=K) hs m (j+1) fuel (A++[(j:Int)]) (by omega) (by omega) (by simp;omega)
  have D:=TO (N:=N) (c:=c) (h:=h) (o:=o) (K:=K) hs m (j+1) fuel A (by omega) (by omega) (by omega)
  generalize c.lines.l[j]=b at *
  have b3:(ble (A.length+1) 140737488355328&&ble ((A.length+1)*8) 140737488355328)=true:=by rw[Ey,Ey];simp;omega
  have b4:∀(r:LA)(f:LA->Nat->O R),Bq 1 (drop 11 (b.av++r)) f=f (Aj b.away.l) b.away.l.length:=fun r f=>by simp[LineD.av,H0,Fm]
  have Y:take (A.length*1) (Aj A)++[.int .i64 (j:Int)]=Aj (A++[(j:Int)]):=yw (B:=[(j:Int)]) rfl
  rw[b4,ND rfl T,b3,ct,Y,Fb (by omega)]
  cases b.away.l.contains h with
  |true=>simp only[A00,cond_false,cond_true];exact D
  |false =>
   simp only[Az2,cond_true,cond_false]
   rw[Ax1]at C
   simpa using C
def Acq{N:Nat}{c:CaseD}{h:Int}{o:Bool}{K:Nat->LA->O R}(hs:Small c N):Px N c.av o h K=K (A5 c h).length (Aj (A5 c h)):=by
 rw[DW];unfold Sk
 have:=TO (R:=R) (N:=N) (c:=c) (h:=h) (o:=o) (K:=K) hs c.lines.l.length 0 N [] (by omega) hs.lin.1 (by simp)
 simpa[A5,Aj]using this
def Bn(e:Nat×Nat):LA:=[.int .i64 (e.1:Int),.int .i64 (e.2:Int)]
def Tn(e:Nat×Nat):(Bn e).length=2:=rfl
def VJ(es:List (Nat×Nat)):(es.flatMap Bn).length=es.length*2:=by
 induction es with
|nil=>rfl
|cons e r k=>rw[Aye,Ax1,k,Tn];simp;omega
def sD{N:Nat}{c:CaseD}{o:Bool}{ls:List Int}{K:Nat->Nat->LA->LA->O R}(D:ls.length<=1000000)(C:∀ l∈ls,∃ x,LnV c l x):∀(m j fuel:Nat),j+m=ls.length->m<fuel ->
  Kv N K ls.length o c.av (Aj ls) fuel j (ls.length:Int) (j:Int) (((ls.take j).map (H1 c)).flatMap Bn)=K ls.length ls.length ((ls.map (H1 c)).flatMap Bn) (Aj ls)
|0,j,fuel+1,G,_=>by
  rw[Kv];unfold Vy
  have:j=ls.length:=by omega
  rw[Ki (by omega),cf,Axl (by omega),this]
| m+1,j,fuel+1,G,L=>by
  rw[Kv];unfold Vy
  have h:j<ls.length:=by omega
  obtain⟨x,k⟩:=C ls[j] (Axv h)
  have b3:(ble (j+1) 140737488355328&&ble ((j+1)*16) 140737488355328)=true:=by rw[Ey,Ey];simp;omega
  have I:take (j*2) (((ls.take j).map (H1 c)).flatMap Bn)++[.int .i64 x.fr,.int .i64 x.tl]=((ls.take (j+1)).map (H1 c)).flatMap Bn:=by
   rw[Axl (by rw[VJ];simp;omega),Ax5 h,Azw,A0d]
   simp only[Ayc,A4r,Ahd k,Aye,A3h,Ay5,Bn]
   have:=k.f0;have:=k.t0
   rw[A37 k.f0,A37 k.t0]
  rw[Jo h,ct,Aa h,ct,Anm (by simpa using h),Axm,NJ h]
  simp only[P6,Aty k,Atz k]
  rw[wD k.l0 k.lt,ct,ct,b3,ct,I,Fb (by omega),sD D C m (j+1) fuel (by omega) (by omega)]
def Afq{N:Nat}{c:CaseD}{h:Int}{o:Bool}{K:Nat->Nat->LA->LA->O R}(hs:Small c N)(D:∀ l∈A5 c h,∃ x,LnV c l x):
  HL N c.av o h K=K (A5 c h).length (A5 c h).length (((A5 c h).map (H1 c)).flatMap Bn) (Aj (A5 c h)):=by
 rw[XM];unfold LH
 have G:=TN h c.lines.l 0
 have k:=hs.top.2.1
 have C:=hs.lin.1
 have:=sD (R:=R) (N:=N) (c:=c) (o:=o) (ls:=A5 c h) (K:=K) (by unfold A5;omega) D (A5 c h).length 0 N (by omega) (by unfold A5;omega)
 rw[Oh,ct,Fu,Acq hs]
 simpa using this
def Fn(st:Bool×List Int)(e:Nat×Nat):Bool×List Int :=
 let m:=Ca (st.2.getD e.1 0) (st.2.getD e.2 0)
 ((st.1||(st.2.getD e.1 0 != m))||(st.2.getD e.2 0 != m),(st.2.set e.1 m).set e.2 m)
def lI{N:Nat}{es:List (Nat×Nat)}{n:Nat}{t o:Bool}{K1:Bool->LA->O R}{K:Nat->LA->O R}(hs:es.length<4611686018427387904)(G:∀ e∈es,e.1<n/\e.2<n):∀(m j fuel:Nat)(st:Bool×List Int),j+m=es.length->m<fuel->st.2.length=n ->
  Hg N K1 K (es.flatMap Bn) es.length t o n fuel st.1 (es.length:Int) (j:Int) (Aj st.2)=K1 ((es.drop j).foldl Fn st).1 (Aj ((es.drop j).foldl Fn st).2)
|0,j,fuel+1,st,I,_,_=>by
  rw[Hg];unfold Qb
  rw[Ki (by omega),cf,Hw (l:=es) (by omega)];rfl
| m+1,j,fuel+1,st,I,hf,k=>by
  rw[Hg];unfold Qb
  have h:j<es.length:=by omega
  obtain⟨C,D⟩:=G es[j] (Axv h)
  have L:=lI (N:=N) (es:=es) (n:=n) (t:=t) (o:=o) (K1:=K1) (K:=K) hs G m (j+1) fuel (Fn st es[j]) (by omega) (by omega) (by simp[Fn,k])
  rw[Jo h,ct,Aa h,ct,Axm,Bh Tn _ _ h,Fo (l:=es) h,A1r,<-L]
  generalize es[j]=e at *
  have b1:ble 2 (List.length (Bn e++List.flatMap Bn (drop (j+1) es)))=true:=by rw[Ey,Ax1,Tn];simp
  have b2:take 2 (Bn e++List.flatMap Bn (drop (j+1) es))=Bn e:=Az6 (Tn e)
  rw[b1,ct,b2,Tn]
  have iu:Ac (e.1:Int) n=true:=Aa C
  have iv:Ac (e.2:Int) n=true:=Aa D
  have ru:∀ f:Int->O R,Aq .i64 (drop (0+((Int.toNat (e.1:Int))*1)) (Aj st.2)) f=f (st.2.getD e.1 0):=fun f=>by rw[Anm (by rw[k];simpa using C)];rfl
  have rv:∀ f:Int->O R,Aq .i64 (drop (0+((Int.toNat (e.2:Int))*1)) (Aj st.2)) f=f (st.2.getD e.2 0):=fun f=>by rw[Anm (by rw[k];simpa using D)];rfl
  have s1:=yv (l:=st.2) (x:=Int.toNat (e.1:Int)) (by rw[k];simpa using C)
  have s2:∀ m:Int,((beq 1 1)&&((ble ((0+((Int.toNat (e.2:Int))*1))+1) (List.length (List.set (Aj st.2) (0+((Int.toNat (e.1:Int))*1)) (.int .i64 m))))&&(!false)))=true:=fun m=>by
   rw[f6];exact yv (by simpa[k]using D)
  have T:∀ m:Int,List.set (List.set (Aj st.2) (0+((Int.toNat (e.1:Int))*1)) (.int .i64 m)) (0+((Int.toNat (e.2:Int))*1)) (.int .i64 m)=Aj ((st.2.set e.1 m).set e.2 m):=fun m=>by
   rw[f6,f6];simp
  have p1:(!o||A9 (Bn e))=true:=by simp[Bn,A9]
  have p2:(beq 2 2&&(ble 2 2&&!false))=true:=rfl
  have Y:setCells [.int .i64 (0:Int),.int .i64 (0:Int)] 0 (Bn e)=Bn e:=rfl
  have p4:∀ f:Int->O R,Aq .i64 (Bn e) f=f e.1:=fun f=>by simp[Bn,Av]
  have p5:∀ f:Int->O R,Aq .i64 (drop 1 (Bn e)) f=f e.2:=fun f=>by simp[Bn,Av]
  simp only[p1,p2,Y,p4,p5,ct,iu,iv,ru,rv,s1,s2,T,Fb (show j<4611686018427387904 by omega)]
  unfold Fn
  cases st.1
  ·cases hm:(st.2.getD e.1 0 != Ca (st.2.getD e.1 0) (st.2.getD e.2 0))<;>simp only[hm,A1q,A0w,cond_true,cond_false,beq_self_eq_true,show(true==false)=false from rfl]
  ·simp only[A0w,cond_false,show(true==false)=false from rfl]
def aU(L:List Int):Nat:=(L.map Int.toNat).sum
def Ahe{L:List Int}{x:Nat}{v:Int}(h:x<L.length):aU (L.set x v)+(L.getD x 0).toNat=aU L+v.toNat:=by
 unfold aU
 rw[NJ h]
 induction L generalizing x with
|nil=>simp at h
|cons a r k =>
  cases x with
  |zero=>simp;omega
  |succ x=>have:=k (x:=x) (by simpa using h);simp at this ⊢;omega
def sE{L:List Int}{x y:Nat}{v:Int}(h:x<L.length):(L.set x v).getD y 0=if x=y then v else L.getD y 0:=by
 rw[Axu,Axu,List.getElem?_set]
 by_cases e:x=y
 ·subst e;simp[h]
 ·simp[e]
def Apc(a b:Int):Ca a b<=a/\Ca a b<=b/\(Ca a b=a\/Ca a b=b):=by
 unfold Ca
 by_cases h:b<a
 ·simp[h];omega
 ·simp[h];omega
def Aj2 {n:Nat} {es:List (Nat×Nat)} {e:Nat×Nat} (hm:e ∈ es) (I:e.1<n) (T:e.2<n) {b:Bool} {L:List Int} (h:LeastOk n es L) :
    LeastOk n es (Fn (b,L) e).2/\(((Fn (b,L) e).1=true/\aU (Fn (b,L) e).2<aU L)\/((Fn (b,L) e)=(b,L)/\L.getD e.1 0=L.getD e.2 0)):=by
  obtain⟨u,v⟩:=e
  simp only at I T
  obtain⟨m1,m2,m3⟩:=Apc (L.getD u 0) (L.getD v 0)
  have k:u<L.length:=by rw[h.len];exact I
  have D:v<L.length:=by rw[h.len];exact T
  have C:Conn es u v:=.fwd hm (.refl _)
  have Am:∀ y,((L.set u (Ca (L.getD u 0) (L.getD v 0))).set v (Ca (L.getD u 0) (L.getD v 0))).getD y 0=if v=y then Ca (L.getD u 0) (L.getD v 0)else if u=y then Ca (L.getD u 0) (L.getD v 0)else L.getD y 0:=fun y=>by
    rw[sE (by simpa using D),sE k]
  have lu:=h.low u I
  have lv:=h.low v T
  refine⟨⟨by simp[Fn,h.len],fun y hy=>?_,fun y hy=>?_⟩,?_⟩
  · simp only[Fn,Am]
    split
    · rename_i e;subst e;omega
    · split
      · rename_i e;subst e;omega
      · exact h.low y hy
  · simp only[Fn,Am]
    have cm:Conn es (Ca (L.getD u 0) (L.getD v 0)).toNat u:=by
      rcases m3 with e|e<;>rw[e]
      · exact h.con u I
      · exact(h.con v T).trans C.symm
    split
    · rename_i e;subst e;exact cm.trans C
    · split
      · rename_i e;subst e;exact cm
      · exact h.con y hy
  · by_cases e1:L.getD u 0=Ca (L.getD u 0) (L.getD v 0)<;>by_cases Y:L.getD v 0=Ca (L.getD u 0) (L.getD v 0)
    · right
      have q:(L.set u (Ca (L.getD u 0) (L.getD v 0))).set v (Ca (L.getD u 0) (L.getD v 0))=L:=by
        have key:∀ m:Int,L.getD u 0=m->L.getD v 0=m->(L.set u m).set v m=L:=by
          intro m h1 h2
          have a1:L.set u m=L:=by rw[<-h1,NJ k,A3x]
          have a2:L.set v m=L:=by rw[<-h2,NJ D,A3x]
          rw[a1,a2]
        exact key _ e1 Y
      have x1:(L.getD u 0 != Ca (L.getD u 0) (L.getD v 0))=false:=by simpa using e1
      have x2:(L.getD v 0 != Ca (L.getD u 0) (L.getD v 0))=false:=by simpa using Y
      refine⟨by simp only[Fn,q,x1,x2,Bool.or_false],by rw[e1];exact Y.symm⟩
    all_goals
      left
      have hs1:=Ahe (v:=Ca (L.getD u 0) (L.getD v 0)) k
      have G:=Ahe (L:=L.set u (Ca (L.getD u 0) (L.getD v 0))) (x:=v) (v:=Ca (L.getD u 0) (L.getD v 0)) (by simpa using D)
      rw[sE k]at G
      refine⟨?_,?_⟩
      · first
          | (have x2 : (L.getD v 0 != Ca (L.getD u 0) (L.getD v 0)) = true := by simpa using Y
             simp only[Fn,x2,A0b])
          | (have x1 : (L.getD u 0 != Ca (L.getD u 0) (L.getD v 0)) = true := by simpa using e1
             simp only[Fn,x1,A0b,A0w])
      · simp only[Fn]
        split at G
        · rename_i e;subst e;omega
        · omega
def yx{n:Nat}{es:List (Nat×Nat)}(C:∀ e∈es,e.1<n/\e.2<n):∀(fs:List (Nat×Nat))(b:Bool)(L:List Int),(∀ e∈fs,e∈es)->LeastOk n es L ->
  LeastOk n es (fs.foldl Fn (b,L)).2/\(((fs.foldl Fn (b,L)).1=true/\(aU (fs.foldl Fn (b,L)).2<aU L\/(b=true/\aU (fs.foldl Fn (b,L)).2<=aU L)))\/((fs.foldl Fn (b,L))=(b,L)/\Ahc fs L))
|[],b,L,_,h=>⟨h,.inr ⟨rfl,fun e C=>by simp at C⟩⟩
| e::r,b,L,T,h=>by
  have Y:=T e (by simp)
  obtain⟨h1,h2⟩:=Aj2 Y (C e Y).1 (C e Y).2 (b:=b) h
  rw[A1r]
  rcases h2 with⟨h3,h4⟩|⟨h3,h4⟩
  ·have e':Fn (b,L) e=(true,(Fn (b,L) e).2):=by rw[<-h3]
   rw[e']
   obtain⟨k1,D⟩:=yx C r true (Fn (b,L) e).2 (fun x k=>T x (Az8 _ k)) h1
   refine⟨k1,.inl ?_⟩
   rcases D with⟨G,I⟩|⟨G,_⟩
   ·exact⟨G,.inl (by rcases I with I|⟨_,I⟩<;>omega)⟩
   ·rw[G];exact⟨rfl,.inl h4⟩
  ·rw[h3]
   obtain⟨k1,D⟩:=yx C r b L (fun x k=>T x (Az8 _ k)) h
   refine⟨k1,?_⟩
   rcases D with D|⟨G,I⟩
   ·exact .inl D
   ·refine .inr ⟨G,fun x k=>?_⟩
    rcases Ax7.1 k with rfl|k
    ·exact h4
    ·exact I x k
def lJ{N:Nat}{es:List (Nat×Nat)}{n:Nat}{t o:Bool}(hs:Q3 es.length N)(C:∀ e∈es,e.1<n/\e.2<n):∀(s fuel:Nat)(L:List Int),LeastOk n es L->aU L<=s->s+2<fuel ->
  ∃ L',LeastOk n es L'/\Ahc es L'/\∀ K:Nat->LA->O R,C5 N K (es.flatMap Bn) es.length t o n fuel true (Aj L)=K n (Aj L')
| s,fuel+1,L,h,hL,hf=>by
  obtain⟨G,I⟩:=yx C es false L (fun _ T=>T) h
  have step:∀ K:Nat->LA->O R,C5 N K (es.flatMap Bn) es.length t o n (fuel+1) true (Aj L)=C5 N K (es.flatMap Bn) es.length t o n fuel (es.foldl Fn (false,L)).1 (Aj (es.foldl Fn (false,L)).2):=fun K=>by
   rw[C5];unfold Qc
   have:=lI (R:=R) (N:=N) (es:=es) (n:=n) (t:=t) (o:=o) (K1:=C5 N K (es.flatMap Bn) es.length t o n fuel) (K:=K) hs.2 C es.length 0 N (false,L) (by omega) hs.1 h.len
   simpa using this
  rcases I with⟨D,k⟩|⟨D,k⟩
  ·have Y:aU (es.foldl Fn (false,L)).2<aU L:=by
    rcases k with k|⟨k,_⟩
    ·exact k
    ·cases k
   obtain⟨L',a1,a2,a3⟩:=lJ hs C (s - 1) fuel _ G (by omega) (by omega)
   exact⟨L',a1,a2,fun K=>by rw[step,D];exact a3 K⟩
  ·refine⟨L,h,k,fun K=>?_⟩
   rw[step,D]
   rcases fuel with _|fuel
   ·omega
   ·rw[C5];unfold Qc;rfl
 termination_by s=>s
 decreasing_by omega
def lK{N:Nat}{es:List (Nat×Nat)}{n:Nat}{t o:Bool}{K:Nat->LA->O R}(hn:n<4611686018427387904)(L:List Int)(hL:L.length=n):∀(m j fuel:Nat),j+m=n->m<fuel ->
  Hh N K (n:Int) (es.flatMap Bn) es.length t o fuel n (j:Int) (Aj ((P7 n).take j++L.drop j))=C5 N K (es.flatMap Bn) es.length t o n N true (Aj (P7 n))
|0,j,fuel+1,C,_=>by
  rw[Hh];unfold Qd
  rw[Ki (by omega),cf,Hw (by omega),Ay5,Axl (by simp[P7];omega)]
|m+1,j,fuel+1,C,D=>by
  rw[Hh];unfold Qd
  have h:j<n:=by omega
  have k:((P7 n).take j++L.drop j).length=n:=by simp[P7];omega
  rw[Jo h,ct,Aa h,ct,yv (by rw[k];simpa using h),ct,Axm,Ax0,Ax4,f6,Afp hL h,Fb (by omega),lK hn L hL m (j+1) fuel (by omega) (by omega)]
def Afr(n:Nat)(es:List (Nat×Nat)):LeastOk n es (P7 n):=by
 refine⟨by simp[P7],fun b k=>?_,fun b k=>?_⟩
 ·rw[wC k];omega
 ·rw[wC k];exact .refl _
def Ary{L:List Int}{b:Nat}:(∀ x∈L,x.toNat<=b)->aU L<=L.length*b:=by
 unfold aU
 induction L with
|nil=>intro _;simp
|cons a r k =>
  intro h
  have D:=h a (by simp)
  have G:=k (fun x C=>h x (Az8 _ C))
  simp[Ax2];omega
def f7{N:Nat}{es:List (Nat×Nat)}{n:Nat}{t o:Bool}(hs:Q3 es.length N)(hn:n<=1000)(hN:n*n+1000<N)(D:∀ e∈es,e.1<n/\e.2<n):
  ∃ L,LeastOk n es L/\Ahc es L/\∀(m:Nat)(K:Nat->LA->O R),m=es.length->Rd N (n:Int) (es.flatMap Bn) m t o K=K n (Aj L):=by
 have k:aU (P7 n)<=n*n:=by
  have:=Ary (L:=P7 n) (b:=n) (by
   intro x C;simp[P7] at C;obtain⟨a,ha,rfl⟩:=C;simp;omega)
  simpa[P7]using this
 obtain⟨L,G,I,T⟩:=lJ (R:=R) (N:=N) (es:=es) (n:=n) (t:=t) (o:=o) hs D (n*n) N (P7 n) (Afr n es) k (by omega)
 refine⟨L,G,I,fun m K Y=>?_⟩
 subst Y
 rw[OH];unfold Y9
 have ok:(decide ((0:Int)<=(n:Int))&&(decide ((n:Int)<=(n:Int))&&(decide ((n:Int)<=(140737488355328:Int))&&decide (((n:Int)*((8:Nat):Int))<=(140737488355328:Int)))))=true:=by simp;omega
 have e:replicate n (AV.int .i64 (0:Int))=Aj (replicate n 0):=by simp[Aj]
 have:=lK (R:=R) (N:=N) (es:=es) (n:=n) (t:=t) (o:=o) (K:=K) (by omega) (replicate n 0) (by simp) n 0 N (by omega) (by omega)
 rw[ok,ct,Axm,e,<-T K]
 simpa using this
def aV{N:Nat}{L:List Int}{t o:Bool}{K:Int->O R}(hs:L.length<1000000):∀(m j fuel:Nat)(a:Nat),j+m=L.length->m<fuel->a<=j ->
  Kw N K (Aj L) L.length t o fuel (a:Int) (j:Int)=K ((a+((List.range' j m).filter fun b=>L.getD b 0==(b:Int)).length:Nat):Int)
|0,j,fuel+1,a,k,_,_=>by
  rw[Kw];unfold Vz
  rw[Ki (by omega),cf];simp
| m+1,j,fuel+1,a,k,C,D=>by
  rw[Kw];unfold Vz
  have h:j<L.length:=by omega
  rw[Jo h,ct,Aa h,ct,rq h,Fb (by omega),Fb (by omega),List.range'_succ,A0q,NJ h]
  cases G:L[j]==(j:Int)with
  |true =>
   rw[ct,aV hs m (j+1) fuel (a+1) (by omega) (by omega) (by omega)]
   simp;congr 1;omega
  |false =>
   rw[cf,aV hs m (j+1) fuel a (by omega) (by omega) (by omega)]
   simp
def sF{N:Nat}{L:List Int}{n:Nat}{t o:Bool}{K:Int->O R}(hn:n=L.length)(hs:L.length<1000000)(hN:L.length<N):Z8 N (Aj L) n t o K=K (Apb L:Int):=by
 subst hn
 rw[XN];unfold LI
 have:=aV (R:=R) (N:=N) (L:=L) (t:=t) (o:=o) (K:=K) hs L.length 0 N 0 (by omega) hN (by omega)
 simp only[A0h,Ax0]at this
 rw[Apb,List.range_eq_range']
 exact this
def f8(gone:List Int):List (Nat×Nat)->Nat->List (Nat×Nat)
|[],_=>[]
|e::r,j=>cond (gone.contains (j:Int)) (f8 gone r (j+1)) (e::f8 gone r (j+1))
def sG{N:Nat}{es:List (Nat×Nat)}{gone:List Int}{n:Nat}{t o t2 o2:Bool}{K:Bool->O R}(Y:es.length<=1000)(hlN:es.length<N)(hn:n<=1000)(hN:n*n+1000<N)(k:∀ e∈es,e.1<n/\e.2<n)(G:Q3 gone.length N):∀(m j fuel:Nat)(A:List (Nat×Nat)),j+m=es.length->m<fuel->A.length<=j->(∀ e∈A,e.1<n/\e.2<n) ->
  Fi N K (n:Int) (es.flatMap Bn) es.length t o (Aj gone) gone.length t2 o2 fuel A.length (j:Int) (A.flatMap Bn)=K (decide ((Xg n (A++f8 gone (es.drop j) j):Int)>(Xg n es:Int)))
|0,j,fuel+1,A,hj,_,hA,hAe=>by
  rw[Fi];unfold Mz
  obtain⟨L,a1,a2,a3⟩:=f7 (R:=R) (N:=N) (es:=A) (n:=n) (t:=false) (o:=true) ⟨by omega,by omega⟩ hn hN hAe
  obtain⟨L',b1,b2,b3⟩:=f7 (R:=R) (N:=N) (es:=es) (n:=n) (t:=false) (o:=o) ⟨by omega,by omega⟩ hn hN k
  have l1:=a1.len;have l2:=b1.len
  rw[Ki (by omega),cf,Hw (l:=es) (by omega),f8,Ay5,Axl (by rw[VJ];exact Axo _),a3 _ _ rfl,Ax4,Axl (by rw[Io];omega),sF (by omega) (by omega) (by omega),b3 _ _ rfl,Axl (by rw[Io];omega),sF (by omega) (by omega) (by omega),lH a1 a2 hAe,lH b1 b2 k]
| m+1,j,fuel+1,A,hj,hf,hA,hAe=>by
  rw[Fi];unfold Mz
  have h:j<es.length:=by omega
  have C:=sG (N:=N) (es:=es) (gone:=gone) (n:=n) (t:=t) (o:=o) (t2:=t2) (o2:=o2) (K:=K) Y hlN hn hN k G m (j+1) fuel (A++[es[j]]) (by omega) (by omega) (by simp;omega) (by
   intro e I
   rcases Axz.1 I with D|D
   ·exact hAe e D
   ·simp at D;subst D;exact k _ (Axv h))
  have T:=sG (N:=N) (es:=es) (gone:=gone) (n:=n) (t:=t) (o:=o) (t2:=t2) (o2:=o2) (K:=K) Y hlN hn hN k G m (j+1) fuel A (by omega) (by omega) (by omega) hAe
  rw[Jo h,ct,ND rfl G,Aa h,ct,Axm,Bh Tn _ _ h,Fo (l:=es) h,f8]
  generalize es[j]=e at *
  have b1:ble 2 (List.length (Bn e++List.flatMap Bn (drop (j+1) es)))=true:=by rw[Ey,Ax1,Tn];simp
  have b2:take 2 (Bn e++List.flatMap Bn (drop (j+1) es))=Bn e:=Az6 (Tn e)
  have b3:(ble (A.length+1) 140737488355328&&ble ((A.length+1)*16) 140737488355328)=true:=by rw[Ey,Ey];simp;omega
  have p1:(!o||A9 (Bn e))=true:=by simp[Bn,A9]
  have p3:take 2 (setCells [.int .i64 (0:Int),.int .i64 (0:Int)] 0 (Bn e))=Bn e:=rfl
  have b5:take (A.length*2) (A.flatMap Bn)++Bn e=(A++[e]).flatMap Bn:=by
   rw[Axl (by rw[VJ];exact Axo _)];simp
  rw[b1,ct,b2,p1,ct,Tn,show(beq 2 2&&ble 2 2)=true from rfl,ct,b3,ct,p3,b5,Fb (by omega)]
  cases gone.contains (j:Int)with
  |true=>simp only[A00,cond_false,cond_true];exact T
  |false =>
   simp only[Az2,cond_true,cond_false]
   rw[Ax1]at C
   simpa using C
def sH{N:Nat}{es:List (Nat×Nat)}{gone:List Int}{n m m2:Nat}{t o t2 o2:Bool}{K:Bool->O R}(C:m=es.length)(k:m2=gone.length)(D:es.length<=1000)(hlN:es.length<N)(hn:n<=1000)(hN:n*n+1000<N)(G:∀ e∈es,e.1<n/\e.2<n)(I:Q3 gone.length N):
  Py N (n:Int) (es.flatMap Bn) m t o (Aj gone) m2 t2 o2 K=K (decide ((Xg n (f8 gone es 0):Int)>(Xg n es:Int))):=by
 subst C k
 rw[DX];unfold Sm
 have:=sG (R:=R) (N:=N) (es:=es) (gone:=gone) (n:=n) (t:=t) (o:=o) (t2:=t2) (o2:=o2) (K:=K) D hlN hn hN G I es.length 0 N [] (by omega) hlN (by simp) (by simp)
 simpa using this
def Dc{p:Jb}{ok:Bool}{w:Int×Int×Int}{e:{e:Int // e≠0}}(h:nd p ok w e=none):p=none/\ok=true:=by
 rcases p with _|x
 ·cases ok
  ·simp[nd]at h
  ·exact⟨rfl,rfl⟩
 ·simp[nd]at h
def Q6{α:Type}{f:Nat->α->Jb->Jb}(C:∀ j a x,f j a (some x)=some x):∀(l:List α)(j:Nat)(p:Jb),Gb f l j p=none->p=none/\∀ i (h:i<l.length),f (j+i) l[i] none=none
|[],j,p,h=>by rw[Gb]at h;exact⟨h,fun i hi=>by simp at hi⟩
| a::r,j,p,h=>by
  rw[Gb]at h
  obtain⟨k,D⟩:=Q6 C r (j+1) _ h
  have G:p=none:=by
   rcases p with _|x
   ·rfl
   ·rw[C]at k;cases k
  subst G
  refine⟨rfl,fun i hi=>?_⟩
  cases i with
  |zero=>simpa using k
  |succ i=>have:=D i (by simpa using hi);rw[show j+1+i=j+(i+1) by omega]at this;simpa using this
def jM{c:CaseD}(j:Nat)(x:BusD)(y:(Int×Int×Int)×{e:Int // e≠0}):Ao6 c j x (some y)=some y:=rfl
def aW{c:CaseD}(j:Nat)(x:LineD)(y:(Int×Int×Int)×{e:Int // e≠0}):vz c j x (some y)=some y:=rfl
def TP{c:CaseD}(j:Nat)(x:StoreD)(y:(Int×Int×Int)×{e:Int // e≠0}):ry c j x (some y)=some y:=rfl
def jN{c:CaseD}(j:Nat)(x:TieD)(y:(Int×Int×Int)×{e:Int // e≠0}):Ao7 c j x (some y)=some y:=rfl
def aX{c:CaseD}(j:Nat)(x:UnitD)(y:(Int×Int×Int)×{e:Int // e≠0}):Acn c j x (some y)=some y:=by
 show cond (x.state==2) _ _=_
 cases x.state==2<;>rfl
def Ann(c:CaseD):Jb :=
 let p:=Afm c none
 let p:=Gb (Ao6 c) c.buses.l 0 p
 let p:=Gb (vz c) c.lines.l 0 p
 let p:=Gb (Acn c) c.units.l 0 p
 let p:=Gb (ry c) c.stores.l 0 p
 let p:=Gb (Ao7 c) c.ties.l 0 p
 Gb (Aj1 c) c.outs.l 0 p
noncomputable def Ano(c:CaseD)(h:Int)(o:OutD):Bool:=(Xg c.buses.l.length (((A5 c h).filter fun l=>!o.lines.l.contains l).map (H1 c)):Int)==(Xg c.buses.l.length ((A5 c h).map (H1 c)):Int)
noncomputable def Anp(c:CaseD)(h:Int)(j:Nat)(o:OutD)(p:Jb):Jb:=nd p (Ano c h o) (6,j,h) Auy
noncomputable def aY(c:CaseD):Nat->Nat->Jb->Jb
|0,_,p=>p
|m+1,j,p=>aY c m (j+1) (Gb (Anp c j) c.outs.l 0 p)
def Aj3{c:CaseD}{h:Int}(j:Nat)(x:OutD)(y:(Int×Int×Int)×{e:Int // e≠0}):Anp c h j x (some y)=some y:=rfl
def lL{c:CaseD}{y:(Int×Int×Int)×{e:Int // e≠0}}:∀(m j:Nat),aY c m j (some y)=some y
|0,_=>rfl
|m+1,j=>by rw[aY,Og (fun j a=>Aj3 j a y)];exact lL m (j+1)
noncomputable def TQ(c:CaseD):Jb:=match Ann c with
|some x=>some x
|none=>aY c c.hours.toNat 0 none
structure PreV(c:CaseD):Prop where
 hours:1<=c.hours/\c.hours<=24
 nb:c.buses.l.length<=32
 nl:c.lines.l.length<=64
 no:c.outs.l.length<=64
 line:∀ x∈c.lines.l,0<=x.fr/\x.fr.toNat<c.buses.l.length/\0<=x.tl/\x.tl.toNat<c.buses.l.length
 out:∀ x∈c.outs.l,x.lines.l.length<=2
def Aj4{c:CaseD}(h:Ann c=none):PreV c:=by
 unfold Ann at h
 obtain⟨L,o6⟩:=Q6 (fun _ _ _=>jK) _ _ _ h
 obtain⟨T,o5⟩:=Q6 (fun j a x=>jN j a x) _ _ _ L
 obtain⟨Y,o4⟩:=Q6 (fun j a x=>TP j a x) _ _ _ T
 obtain⟨h3,o3⟩:=Q6 (fun j a x=>aX j a x) _ _ _ Y
 obtain⟨h2,o2⟩:=Q6 (fun j a x=>aW j a x) _ _ _ h3
 obtain⟨I,o1⟩:=Q6 (fun j a x=>jM j a x) _ _ _ h2
 unfold Afm at I
 obtain⟨w7,e7⟩:=Dc I
 obtain⟨w6,_⟩:=Dc w7
 obtain⟨w5,_⟩:=Dc w6
 obtain⟨w4,_⟩:=Dc w5
 obtain⟨w3,C⟩:=Dc w4
 obtain⟨w2,k⟩:=Dc w3
 obtain⟨w1,_⟩:=Dc w2
 obtain⟨w0,_⟩:=Dc w1
 obtain⟨_,D⟩:=Dc w0
 unfold Fc at D k
 simp at D k C e7
 refine⟨D,by omega,by omega,by omega,fun x G=>?_,fun x G=>?_⟩
 ·obtain⟨i,hi,rfl⟩:=Azc G
  have:=o2 i hi
  unfold vz rx at this
  obtain⟨a,_⟩:=Dc this
  obtain⟨a,_⟩:=Dc a
  obtain⟨a,_⟩:=Dc a
  obtain⟨a,_⟩:=Dc a
  obtain⟨a,_⟩:=Dc a
  obtain⟨a,_⟩:=Dc a
  obtain⟨a,_⟩:=Dc a
  obtain⟨a,_⟩:=Dc a
  obtain⟨a,b1⟩:=Dc a
  obtain⟨_,b2⟩:=Dc a
  unfold lD at b1 b2
  simp at b1 b2
  omega
 ·obtain⟨i,hi,rfl⟩:=Azc G
  have:=o6 i hi
  unfold Aj1 Afn at this
  obtain⟨a,_⟩:=Dc this
  obtain⟨a,_⟩:=Dc a
  obtain⟨a,_⟩:=Dc a
  obtain⟨a,_⟩:=Dc a
  obtain⟨a,_⟩:=Dc a
  obtain⟨a,_⟩:=Dc a
  obtain⟨a,_⟩:=Dc a
  obtain⟨_,b2⟩:=Dc a
  simp at b2
  omega
def PreV.lnV{c:CaseD}(v:PreV c){h:Int}{l:Int}(C:l∈A5 c h):∃ x,LnV c l x:=by
 have:=Acp h c.lines.l 0 l C
 have D:0<=l:=by omega
 have k:l.toNat<c.lines.l.length:=by omega
 obtain⟨a,b,d,e⟩:=v.line _ (Axv k)
 exact⟨c.lines.l[l.toNat],D,k,Axn k,a,b,d,e⟩
def w3(p:Jb):LA:=match p with
|none=>[.int .i64 0,.int .i64 0,.int .i64 0]
|some ((a,b,f),_)=>[.int .i64 a,.int .i64 b,.int .i64 f]
def Anq{N:Nat}{c:CaseD}{p:Jb}{o:Bool}{j:Nat}{K:Int->LA->O R}{K2:LA->Int->O R}(hs:Small c N)(h:j<c.buses.l.length):
  Sn N K K2 o c.av (j:Int) (C0 p)=K ((j+1:Nat):Int) (C0 (Ao6 c j c.buses.l[j] p)):=by
 have hN:=hs.n64
 have hN8:8<=N:=by omega
 have C:=hs.bus
 have I:c.buses.l[j]∈c.buses.l:=Axv h
 have L:=hs.dem _ I
 have D:=@Du R N c (c.buses.l.map (·.name)) o (k:=1) (n:=j) (hN:=hN) (hL:=fun K=>Aco hs) (hn:=by simpa using h) (hs:=⟨by have:=C.1;omega,by have:=C.2;omega⟩)
 have G:(c.buses.l.map (·.name))[j]'(by simpa using h)=c.buses.l[j].name:=by simp
 rw[G]at D
 unfold Sn
 simp only[Oh,Fu,ct,D,Tm]
 rw[Aa h,ct,Axm,Bh IV _ _ h]
 generalize c.buses.l[j]=b at *
 have b4:∀(r:LA)(f:LA->Nat->O R),Bq 1 (drop 1 (b.av++r)) f=f (Aj b.demand.l) b.demand.l.length:=fun r f=>by simp[BusD.av,H0,Fm]
 have T:∀(r:LA)(f:Int->O R),Aq .i64 (drop 2 (b.av++r)) f=f b.shed:=fun r f=>by simp[BusD.av,Av]
 rw[b4,Ee rfl L,ct,T,D1 hN8,Af (by decide),Fb (by have:=C.2;omega)]
 rfl
def yy{p:Jb}{K:LA->Int->O R}:(cond (ble 3 (List.length (C0 p))) (Aq .i64 (drop 3 (C0 p)) fun x38=>cond ((beq (List.length (take 3 (C0 p))) 3)&&((ble 3 3)&&(!false))) (cond (ble 3 (List.length (setCells [.int .i64 (0:Int),.int .i64 (0:Int),.int .i64 (0:Int)] 0 (take 3 (C0 p))))) (K (take 3 (setCells [.int .i64 (0:Int),.int .i64 (0:Int),.int .i64 (0:Int)] 0 (take 3 (C0 p)))) x38) none) none) none)=K (w3 p) (Hx p):=by rcases p with _|⟨⟨a,b,f⟩,e,k⟩<;>simp[C0,Anj,w3,Hx,Ey,setCells,Dd,Av]
def lM{N:Nat}{c:CaseD}{o:Bool}{K:LA->Int->O R}(hs:Small c N):∀(m j fuel:Nat)(p:Jb),j+m=c.buses.l.length->m<fuel ->
  Ih N K o c.av fuel (j:Int) (C0 p)=K3 N K o c.av N 0 (C0 (Gb (Ao6 c) (c.buses.l.drop j) j p))
|0,j,fuel+1,p,C,_=>by
  rw[Ih];unfold V7
  rw[Tm,Ki (by omega),Hw (l:=c.buses.l) (by omega),Gb];rfl
| m+1,j,fuel+1,p,C,I=>by
  rw[Ih];unfold V7
  have h:j<c.buses.l.length:=by omega
  have k:=hs.bus
  rw[Tm,Jo h,GB,Fo (l:=c.buses.l) h,Gb]
  rcases p with _|⟨x,e,D⟩
  ·simp only[Hx,beq_self_eq_true,cond_true]
   rw[Anq hs h,lM hs m (j+1) fuel _ (by omega) (by omega)]
  ·have G:(e==0)=false:=by simpa using D
   simp only[Hx,G,beq_self_eq_true,cond_true,cond_false]
   rw[jM,Og (fun _ _=>jM _ _ _)]
def lN{N:Nat}{c:CaseD}{o:Bool}{K:LA->Int->O R}(hs:Small c N):∀(m j fuel:Nat)(p:Jb),j+m=c.lines.l.length->m<fuel ->
  K3 N K o c.av fuel (j:Int) (C0 p)=K0 N K o c.av N 0 (C0 (Gb (vz c) (c.lines.l.drop j) j p))
|0,j,fuel+1,p,C,_=>by
  rw[K3];unfold V6
  rw[P6,Ki (by omega),Hw (l:=c.lines.l) (by omega),Gb];rfl
| m+1,j,fuel+1,p,C,I=>by
  rw[K3];unfold V6
  have h:j<c.lines.l.length:=by omega
  have k:=hs.lin
  rw[P6,Jo h,GB,Fo (l:=c.lines.l) h,Gb]
  rcases p with _|⟨x,e,D⟩
  ·simp only[Hx,beq_self_eq_true,cond_true]
   rw[Oh,ct,Fu,PY hs h,Fb (by have:=k.2;omega),lN hs m (j+1) fuel _ (by omega) (by omega)]
  ·have G:(e==0)=false:=by simpa using D
   simp only[Hx,G,beq_self_eq_true,cond_true,cond_false]
   rw[aW,Og (fun _ _=>aW _ _ _)]
def lO{N:Nat}{c:CaseD}{o:Bool}{K:LA->Int->O R}(hs:Small c N):∀(m j fuel:Nat)(p:Jb),j+m=c.units.l.length->m<fuel ->
  K0 N K o c.av fuel (j:Int) (C0 p)=Kz N K o c.av N 0 (C0 (Gb (Acn c) (c.units.l.drop j) j p))
|0,j,fuel+1,p,C,_=>by
  rw[K0];unfold V5
  rw[CQ,Ki (by omega),Hw (l:=c.units.l) (by omega),Gb];rfl
| m+1,j,fuel+1,p,C,I=>by
  rw[K0];unfold V5
  have h:j<c.units.l.length:=by omega
  have k:=hs.uni
  rw[CQ,Jo h,GB,Fo (l:=c.units.l) h,Gb]
  rcases p with _|⟨x,e,D⟩
  ·simp only[Hx,beq_self_eq_true,cond_true]
   rw[Oh,ct,Fu,PZ hs h,Fb (by have:=k.2;omega),lO hs m (j+1) fuel _ (by omega) (by omega)]
  ·have G:(e==0)=false:=by simpa using D
   simp only[Hx,G,beq_self_eq_true,cond_true,cond_false]
   rw[aX,Og (fun _ _=>aX _ _ _)]
def lP{N:Nat}{c:CaseD}{o:Bool}{K:LA->Int->O R}(hs:Small c N):∀(m j fuel:Nat)(p:Jb),j+m=c.stores.l.length->m<fuel ->
  Kz N K o c.av fuel (j:Int) (C0 p)=Ky N K o c.av N 0 (C0 (Gb (ry c) (c.stores.l.drop j) j p))
|0,j,fuel+1,p,C,_=>by
  rw[Kz];unfold V4
  rw[AC,Ki (by omega),Hw (l:=c.stores.l) (by omega),Gb];rfl
| m+1,j,fuel+1,p,C,I=>by
  rw[Kz];unfold V4
  have h:j<c.stores.l.length:=by omega
  have k:=hs.sto
  rw[AC,Jo h,GB,Fo (l:=c.stores.l) h,Gb]
  rcases p with _|⟨x,e,D⟩
  ·simp only[Hx,beq_self_eq_true,cond_true]
   rw[Oh,ct,Fu,NI hs h,Fb (by have:=k.2;omega),lP hs m (j+1) fuel _ (by omega) (by omega)]
  ·have G:(e==0)=false:=by simpa using D
   simp only[Hx,G,beq_self_eq_true,cond_true,cond_false]
   rw[TP,Og (fun _ _=>TP _ _ _)]
def lQ{N:Nat}{c:CaseD}{o:Bool}{K:LA->Int->O R}(hs:Small c N):∀(m j fuel:Nat)(p:Jb),j+m=c.ties.l.length->m<fuel ->
  Ky N K o c.av fuel (j:Int) (C0 p)=Kx N K o c.av N 0 (C0 (Gb (Ao7 c) (c.ties.l.drop j) j p))
|0,j,fuel+1,p,C,_=>by
  rw[Ky];unfold V3
  rw[VI,Ki (by omega),Hw (l:=c.ties.l) (by omega),Gb];rfl
| m+1,j,fuel+1,p,C,I=>by
  rw[Ky];unfold V3
  have h:j<c.ties.l.length:=by omega
  have k:=hs.tie
  rw[VI,Jo h,GB,Fo (l:=c.ties.l) h,Gb]
  rcases p with _|⟨x,e,D⟩
  ·simp only[Hx,beq_self_eq_true,cond_true]
   rw[Oh,ct,Fu,TM hs h,Fb (by have:=k.2;omega),lQ hs m (j+1) fuel _ (by omega) (by omega)]
  ·have G:(e==0)=false:=by simpa using D
   simp only[Hx,G,beq_self_eq_true,cond_true,cond_false]
   rw[jN,Og (fun _ _=>jN _ _ _)]
def lR{N:Nat}{c:CaseD}{o:Bool}{K:LA->Int->O R}(hs:Small c N):∀(m j fuel:Nat)(p:Jb),j+m=c.outs.l.length->m<fuel ->
  Kx N K o c.av fuel (j:Int) (C0 p)=D0 N K o c.av N 0 (C0 (Gb (Aj1 c) (c.outs.l.drop j) j p))
|0,j,fuel+1,p,C,_=>by
  rw[Kx];unfold V1
  rw[Zt,Ki (by omega),Hw (l:=c.outs.l) (by omega),Gb];rfl
| m+1,j,fuel+1,p,C,I=>by
  rw[Kx];unfold V1
  have h:j<c.outs.l.length:=by omega
  have k:=hs.out
  rw[Zt,Jo h,GB,Fo (l:=c.outs.l) h,Gb]
  rcases p with _|⟨x,e,D⟩
  ·simp only[Hx,beq_self_eq_true,cond_true]
   rw[Oh,ct,Fu,IZ hs h,Fb (by have:=k.2;omega),lR hs m (j+1) fuel _ (by omega) (by omega)]
  ·have G:(e==0)=false:=by simpa using D
   simp only[Hx,G,beq_self_eq_true,cond_true,cond_false]
   rw[jK,Og (fun _ _=>jK)]
def CT(ol:List Int):List Int->Nat->List Int
|[],_=>[]
|a::r,j=>cond (ol.contains a) ((j:Int)::CT ol r (j+1)) (CT ol r (j+1))
def Acr(ol:List Int):∀(l:List Int)(j:Nat)(x:Int),x∈CT ol l j->(j:Int)<=x
|[],_,_,h=>by simp[CT]at h
| a::r,j,x,h=>by
  rw[CT]at h
  have k:=Acr ol r (j+1) x
  cases C:ol.contains a<;>rw[C]at h<;>simp at h
  ·have:=k h;omega
  ·rcases h with rfl|h
   ·omega
   ·have:=k h;omega
def jO{f:Int->Nat×Nat}(ol:List Int):∀(l:List Int)(j:Nat)(pre:List Int),(∀ x∈pre,x<(j:Int))->f8 (pre++CT ol l j) (l.map f) j=((l.filter fun a=>!ol.contains a).map f)
|[],_,_,_=>rfl
| a::r,j,pre,G=>by
  rw[Ayc,f8,CT,A0q]
  have C:¬ (j:Int)∈pre:=fun h=>by have:=G _ h;omega
  cases L:ol.contains a with
  | true =>
   have I:(pre++cond true ((j:Int)::CT ol r (j+1)) (CT ol r (j+1))).contains (j:Int)=true:=by simp
   rw[I]
   have:=jO (f:=f) ol r (j+1) (pre++[(j:Int)]) (by
    intro x k
    rcases Axz.1 k with D|D
    ·have:=G x D;omega
    ·simp at D;omega)
   simp only[cond_true,A00,Azb,if_false]
   rw[<-this];simp
  | false =>
   have I:(pre++cond false ((j:Int)::CT ol r (j+1)) (CT ol r (j+1))).contains (j:Int)=false:=by
    simp only[cond_false]
    rw[List.contains_eq_mem]
    simp only[decide_eq_false_iff_not,Axz,not_or]
    exact⟨C,fun D=>by have:=Acr ol r (j+1) _ D;omega⟩
   rw[I]
   have:=jO (f:=f) ol r (j+1) pre (by intro x k;have:=G x k;omega)
   simp only[cond_false,Az2,if_true,Ayc]
   rw[this]
def NK{N:Nat}{c:CaseD}{o:Bool}{hr:Int}{j:Nat}{p:Jb}{K7:Int->LA->O R}{K9:Int->Int->LA->O R}{K:LA->Int->O R}(hs:Small c N)(hN:4096<=N)(v:PreV c)(h:j<c.outs.l.length):∀(m q fuel:Nat)(A:List Int),q+m=(A5 c hr).length->m<fuel->A.length<=q ->
  A++CT c.outs.l[j].lines.l ((A5 c hr).drop q) q=CT c.outs.l[j].lines.l (A5 c hr) 0 ->
  I0 N K7 K9 K (A5 c hr).length (A5 c hr).length o c.av (((A5 c hr).map (H1 c)).flatMap Bn) (Aj (A5 c hr)) fuel hr (j:Int) A.length (q:Int) (C0 p) (Aj A)=K9 hr ((j+1:Nat):Int) (C0 (Anp c hr j c.outs.l[j] p))
| 0,q,fuel+1,A,hq,_,hA,k=>by
  rw[I0];unfold So
  have hal:=TN hr c.lines.l 0
  have hnl:=v.nl
  have D:=v.nb
  have G:=hs.out
  have hnn:c.buses.l.length*c.buses.l.length<=32*32:=Azk D D
  have I:(A5 c hr).length<=64:=by unfold A5;omega
  rw[Hw (l:=A5 c hr) (by omega),CT,Ay5]at k
  have Y:∀ e∈(A5 c hr).map (H1 c),e.1<c.buses.l.length/\e.2<c.buses.l.length:=by
   intro e Y
   simp only[Ayy]at Y
   obtain⟨l,hl,rfl⟩:=Y
   obtain⟨x,C⟩:=v.lnV hl
   rw[Ahd C];exact⟨C.f1,C.t1⟩
  rw[Ki (by omega),cf,Tm,Axl (by rw[VJ];simp),Ax4,Axl (by rw[Io];exact Axo _),
   sH (by simp) rfl (by simp;omega) (by simp;omega) (by omega) (by omega) Y ⟨by omega,by omega⟩,Af (by decide),Fb (by have:=G.2;omega)]
  have e1:f8 A ((A5 c hr).map (H1 c)) 0=(((A5 c hr).filter fun a=>!c.outs.l[j].lines.l.contains a).map (H1 c)):=by
   rw[k]
   have:=jO (f:=H1 c) c.outs.l[j].lines.l (A5 c hr) 0 [] (by simp)
   simpa using this
  rw[e1]
  have hmono:Xg c.buses.l.length ((A5 c hr).map (H1 c))<=Xg c.buses.l.length (((A5 c hr).filter fun a=>!c.outs.l[j].lines.l.contains a).map (H1 c)):=Afo (by
   intro e L
   simp only[Ayy,Az5]at L ⊢
   obtain⟨l,⟨hl,_⟩,rfl⟩:=L
   exact⟨l,hl,rfl⟩)
  have e2:(!decide ((Xg c.buses.l.length (((A5 c hr).filter fun a=>!c.outs.l[j].lines.l.contains a).map (H1 c)):Int)>(Xg c.buses.l.length ((A5 c hr).map (H1 c)):Int)))=Ano c hr c.outs.l[j]:=by
   unfold Ano
   generalize Xg c.buses.l.length ((A5 c hr).map (H1 c))=x at *
   generalize Xg c.buses.l.length (((A5 c hr).filter fun a=>!c.outs.l[j].lines.l.contains a).map (H1 c))=y at *
   by_cases hxy:x=y
   ·subst hxy;simp
   ·have a1:((y:Int)==(x:Int))=false:=by simp;omega
    rw[a1];simp;omega
  rw[e2];rfl
| m+1,q,fuel+1,A,hq,hf,hA,k=>by
  rw[I0];unfold So
  have T:q<(A5 c hr).length:=by omega
  have hal:=TN hr c.lines.l 0
  have hnl:=v.nl
  have I:(A5 c hr).length<=64:=by unfold A5;omega
  have hm:c.outs.l[j]∈c.outs.l:=Axv h
  have hd:=hs.oli _ hm
  have b4:∀(f:LA->Nat->O R),Bq 1 (drop 1 (drop (j*4) (List.flatMap OutD.av c.outs.l))) f=f (Aj c.outs.l[j].lines.l) c.outs.l[j].lines.l.length:=fun f=>by rw[Bh Of _ _ h];simp[OutD.av,H0,Fm]
  have b3:(ble (A.length+1) 140737488355328&&ble ((A.length+1)*8) 140737488355328)=true:=by rw[Ey,Ey];simp;omega
  have b5:take (A.length*1) (Aj A)++[.int .i64 (q:Int)]=Aj (A++[(q:Int)]):=yw (B:=[(q:Int)]) rfl
  rw[Jo T,ct,Zt,Aa h,ct,Axm,b4,Aa T,ct,Anm (by simpa using T),Axm,NJ T,ND rfl hd,b3,ct,b5,Fb (by omega)]
  rw[Fo T,CT]at k
  cases C:c.outs.l[j].lines.l.contains (A5 c hr)[q]with
  |true =>
   rw[C]at k
   have ih:=NK (o:=o) (hr:=hr) (j:=j) (p:=p) (K7:=K7) (K9:=K9) (K:=K) hs hN v h m (q+1) fuel (A++[(q:Int)]) (by omega) (by omega) (by simp;omega) (by simpa using k)
   rw[Ax1]at ih
   simpa using ih
  |false =>
   rw[C]at k
   have ih:=NK (o:=o) (hr:=hr) (j:=j) (p:=p) (K7:=K7) (K9:=K9) (K:=K) hs hN v h m (q+1) fuel A (by omega) (by omega) (by omega) (by simpa using k)
   simpa using ih
def lS{N:Nat}{c:CaseD}{o:Bool}{hr:Int}{K7:Int->LA->O R}{K:LA->Int->O R}(hs:Small c N)(hN:4096<=N)(v:PreV c):∀(m j fuel:Nat)(p:Jb),j+m=c.outs.l.length->m<fuel ->
  Ig N K7 K (A5 c hr).length (A5 c hr).length o c.av (((A5 c hr).map (H1 c)).flatMap Bn) (Aj (A5 c hr)) fuel hr (j:Int) (C0 p)=K7 (wrap .i64 (hr+1)) (C0 (Gb (Anp c hr) (c.outs.l.drop j) j p))
|0,j,fuel+1,p,k,_=>by
  rw[Ig];unfold V0
  rw[Zt,Ki (by omega),cf,Hw (l:=c.outs.l) (by omega),Gb]
|m+1,j,fuel+1,p,k,I=>by
  rw[Ig];unfold V0
  have h:j<c.outs.l.length:=by omega
  have C:=TN hr c.lines.l 0
  have D:=v.nl
  have G:=lS (o:=o) (hr:=hr) (K7:=K7) (K:=K) hs hN v m (j+1) fuel (Anp c hr j c.outs.l[j] p) (by omega) (by omega)
  have l10:=NK (R:=R) (N:=N) (c:=c) (o:=o) (hr:=hr) (j:=j) (p:=p) (K7:=K7) (K9:=Ig N K7 K (A5 c hr).length (A5 c hr).length o c.av (((A5 c hr).map (H1 c)).flatMap Bn) (Aj (A5 c hr)) fuel) (K:=K) hs hN v h (A5 c hr).length 0 N [] (by omega) (by unfold A5;omega) (by simp) (by simp)
  rw[Zt,Jo h,ct,Fo (l:=c.outs.l) h,Gb,<-G,<-l10]
  rfl
def lT{N H:Nat}{c:CaseD}{o:Bool}{K:LA->Int->O R}(hs:Small c N)(hN:4096<=N)(v:PreV c)(hH:c.hours=(H:Int)):∀(m j fuel:Nat)(p:Jb),j+m=H->m<fuel ->
  D0 N K o c.av fuel (j:Int) (C0 p)=K (w3 (aY c m j p)) (Hx (aY c m j p))
|0,j,fuel+1,p,k,_=>by
  rw[D0];unfold Pz
  rw[IU,hH,Ki (by omega),yy,aY];rfl
| m+1,j,fuel+1,p,k,I=>by
  rw[D0];unfold Pz Za FV
  have hh:=v.hours
  rw[IU,hH,Jo (by omega),GB,yy]
  rcases p with _|⟨x,e,C⟩
  ·simp only[Hx,beq_self_eq_true,cond_true]
   have l9:=lS (R:=R) (N:=N) (c:=c) (o:=o) (hr:=(j:Int)) (K7:=D0 N K o c.av fuel) (K:=K) hs hN v c.outs.l.length 0 N none (by omega) hs.out.1
   rw[Oh,ct,Fu,Afq hs (fun l D=>v.lnV D)]
   simp only[Ayh,A0h]at l9
   rw[l9,Fb (by omega),lT hs hN v hH m (j+1) fuel _ (by omega) (by omega)];rfl
  ·have G:(e==0)=false:=by simpa using C
   simp only[Hx,G,beq_self_eq_true,cond_true,cond_false]
   rw[lL]
def Acs{N:Nat}{c:CaseD}{o:Bool}{y:(Int×Int×Int)×{e:Int // e≠0}}{K:LA->Int->O R}{fuel:Nat}:D0 N K o c.av (fuel+1) 0 (C0 (some y))=K (w3 (some y)) (Hx (some y)):=by
 rw[D0];unfold Pz
 rw[IU,GB,yy]
 have k:(y.2.1==0)=false:=by simpa using y.2.2
 cases decide ((0:Int)<c.hours)<;>simp[Hx,k]
def sI{N:Nat}{c:CaseD}{o:Bool}{K:LA->Int->O R}(hs:Small c N)(hN:4096<=N):HN N c.av o K=K (w3 (TQ c)) (Hx (TQ c)):=by
 rw[XO];unfold LJ
 have k:[.int .i64 (0:Int),.int .i64 (0:Int),.int .i64 (0:Int),.int .i64 (0:Int)]=C0 none:=rfl
 rw[Oh,ct,Fu,k,NH hs]
 have l0:=fun p=>lM (R:=R) (N:=N) (c:=c) (o:=o) (K:=K) hs c.buses.l.length 0 N p (by omega) hs.bus.1
 have l2:=fun p=>lN (R:=R) (N:=N) (c:=c) (o:=o) (K:=K) hs c.lines.l.length 0 N p (by omega) hs.lin.1
 have l3:=fun p=>lO (R:=R) (N:=N) (c:=c) (o:=o) (K:=K) hs c.units.l.length 0 N p (by omega) hs.uni.1
 have l4:=fun p=>lP (R:=R) (N:=N) (c:=c) (o:=o) (K:=K) hs c.stores.l.length 0 N p (by omega) hs.sto.1
 have l5:=fun p=>lQ (R:=R) (N:=N) (c:=c) (o:=o) (K:=K) hs c.ties.l.length 0 N p (by omega) hs.tie.1
 have l6:=fun p=>lR (R:=R) (N:=N) (c:=c) (o:=o) (K:=K) hs c.outs.l.length 0 N p (by omega) hs.out.1
 simp only[Ayh,A0h]at l0 l2 l3 l4 l5 l6
 try dsimp only
 rw[l0,l2,l3,l4,l5,l6]
 show D0 N K o c.av N 0 (C0 (Ann c))=_
 unfold TQ
 cases C:Ann c with
|some y =>
  rcases N with _|N
  ·omega
  ·exact Acs
|none =>
  have v:=Aj4 C
  have hh:=v.hours
  have:=lT (R:=R) (N:=N) (H:=c.hours.toNat) (c:=c) (o:=o) (K:=K) hs hN v (by omega) c.hours.toNat 0 N none (by omega) (by omega)
  simpa using this
def Arz(p:Jb):(w3 p).length=3:=by rcases p with _|⟨⟨a,b,f⟩,e⟩<;>rfl
def Anr(v n:Int)(G:1<=n)(I:n<=4611686018427387904):(wrap .u64 n==0)=false/\0<=wrap .i64 (Int.tmod (wrap .u64 v) (wrap .u64 n))/\wrap .i64 (Int.tmod (wrap .u64 v) (wrap .u64 n))<n:=by
 have hn:wrap .u64 n=n:=IntWalk.u64_in _ (by omega)
 have k:0<=wrap .u64 v:=by rw[IntKind.wrap_u64];omega
 rw[hn]
 have C:0<=Int.tmod (wrap .u64 v) n:=Int.tmod_nonneg _ k
 have D:Int.tmod (wrap .u64 v) n<n:=A2y _ (by omega)
 rw[Ar _ (by omega)]
 exact⟨by simp;omega,C,D⟩
def nx{N:Nat}{l:List Int}{t o:Bool}(Y:l.length<=9223372036854775807)(n:Int)(G:1<=n)(I:n<=4611686018427387904)(k:Nat)(L:k<=l.length):
  ∃(v:Int)(C:Nat),0<=v/\v<n/\C<=l.length/\∀ K:Int->Int->O R,Ag N n (Aj l) l.length t o (k:Int) K=K v (C:Int):=by
 by_cases h:k<l.length
 ·obtain⟨a1,a2,a3⟩:=Anr l[k] n G I
  refine⟨_,k+1,a2,a3,by omega,fun K=>?_⟩
  rw[Ur];unfold Vo
  have D:wrap .i64 ((k:Int)+1)=((k+1:Nat):Int):=by rw[Ar _ (by omega)];omega
  have T:wrap .i64 (wrap .i64 ((k:Int)+1) - 1)=(k:Int):=by rw[D,Ar _ (by omega)];omega
  rw[T,D,Aa h,ct,rq h,pO];unfold xe
  rw[a1,cf,show decide ((k:Int)>=(l.length:Int))=false by simp;omega,cf]
 ·refine⟨0,k,by omega,by omega,L,fun K=>?_⟩
  rw[Ur];unfold Vo
  rw[show decide ((k:Int)>=(l.length:Int))=true by simp;omega,ct]
def sJ{N m:Nat}{l:List Int}{t o:Bool}(I:l.length<=9223372036854775807)(n:Int)(L:1<=n)(T:n<=4611686018427387904)(hm:m<=1000):∀(r j fuel:Nat)(k:Nat)(A:List Int),j+r=m->r<fuel->k<=l.length->A.length=j ->
  ∃(B:List Int)(Y:Nat),B.length=r/\(∀ x∈B,0<=x/\x<n)/\Y<=l.length/\∀ K:Nat->Int->LA->O R,Ff N K (m:Int) n (Aj l) l.length t o fuel j (j:Int) (k:Int) (Aj A)=K m (Y:Int) (Aj (A++B))
|0,j,fuel+1,k,A,hj,_,C,hA=>by
  refine⟨[],k,rfl,by simp,C,fun K=>?_⟩
  rw[Ff];unfold Mr
  have:j=m:=by omega
  subst this
  rw[Ki (Axo _),cf,Ay5]
| r+1,j,fuel+1,k,A,hj,hf,C,hA=>by
  obtain⟨v,k1,v0,v1,D,hv⟩:=nx (R:=R) (N:=N) (t:=t) (o:=o) I n L T k C
  obtain⟨B,k2,b1,b2,b3,b4⟩:=sJ I n L T hm r (j+1) fuel k1 (A++[v]) (by omega) (by omega) D (by simp[hA])
  refine⟨v::B,k2,by simp[b1],?_,b3,fun K=>?_⟩
  ·intro x G
   rcases Ax7.1 G with rfl|G
   ·exact⟨v0,v1⟩
   ·exact b2 x G
  ·rw[Ff];unfold Mr
   have c3:(ble (j+1) 140737488355328&&ble ((j+1)*8) 140737488355328)=true:=by rw[Ey,Ey];simp;omega
   have c5:take (j*1) (Aj A)++[.int .i64 v]=Aj (A++[v]):=yw (B:=[v]) hA.symm
   rw[Jo (by omega),ct,hv,c3,ct,c5,Fb (by omega),b4]
   simp
def CU{N m:Nat}{l:List Int}{t o:Bool}(hN:1001<=N)(D:l.length<=9223372036854775807)(n:Int)(G:1<=n)(I:n<=4611686018427387904)(L:m<=1000)(k:Nat)(T:k<=l.length):
  ∃(B:List Int)(C:Nat),B.length=m/\(∀ x∈B,0<=x/\x<n)/\C<=l.length/\∀ K:Nat->Int->LA->O R,Fq N (m:Int) n (Aj l) l.length t o (k:Int) K=K m (C:Int) (Aj B):=by
 obtain⟨B,C,b1,b2,b3,b4⟩:=sJ (R:=R) (N:=N) (t:=t) (o:=o) D n G I L m 0 N k [] (by omega) (by omega) T rfl
 refine⟨B,C,b1,b2,b3,fun K=>?_⟩
 rw[DP];unfold Sc
 simpa[Aj]using b4 K
def jP{N:Nat}{l:List Int}{t o:Bool}(G:l.length<=9223372036854775807)(H:Int)(h1:1<=H)(h2:H<=1000)(k:Nat)(hk:k<=l.length):
  ∃(B:List Int)(I:Nat),B.length<=1/\(∀ x∈B,0<=x/\x<H)/\I<=l.length/\∀ K:Nat->Int->LA->O R,Oz N H (Aj l) l.length t o (k:Int) K=K B.length (I:Int) (Aj B):=by
 obtain⟨v,L,v0,v1,C,T⟩:=nx (R:=R) (N:=N) (t:=t) (o:=o) G 6 (by omega) (by omega) k hk
 by_cases Y:v=5
 ·obtain⟨u,k2,u0,u1,D,hu⟩:=nx (R:=R) (N:=N) (t:=t) (o:=o) G H h1 (by omega) L C
  refine⟨[u],k2,by simp,by intro x hx;simp at hx;subst hx;exact⟨u0,u1⟩,D,fun K=>?_⟩
  rw[Us];unfold Vp
  rw[T,hu,Y];rfl
 ·refine⟨[],L,by simp,by simp,C,fun K=>?_⟩
  rw[Us];unfold Vp
  have:(v==5)=false:=by simpa using Y
  rw[T,this];rfl
def Avw:Lu:=[48,49,50,51,52,53,54,55,56,57,97,98,99,100,101,102]
def Rt{N:Nat}{c:UInt8}{i:Nat}(hi:i<16){K:Lu->O R}:KV N [c] (i:Int) K=K [c,Avw.getD i 0]:=by
 rw[jz];unfold pP
 have e1:Int.tmod (i:Int) 16=(i:Int):=Int.tmod_eq_of_lt (by omega) (by omega)
 rw[e1,Fb (by omega)]
 have c1:(decide ((0:Int)<=(i:Int))&&(decide ((i:Int)<=((i+1:Nat):Int))&&(decide (((i+1:Nat):Int)<=(16:Int))&&decide ((16:Int)<=(16:Int)))))=true:=by simp;omega
 rw[c1,ct]
 simp only[Axm,A1y]
 have:take 1 (drop i ([48,49,50,51,52,53,54,55,56,57,97,98,99,100,101,102]:Lu))=[Avw.getD i 0]:=by
  rw[Fo (by simpa using hi)]
  simp[Avw,hi]
 rw[this];rfl
def Pa{a:Int}(h:-9223372036854775808<=a/\a<=9223372036854775807):wrap .i64 a=a:=Ar a h
def H2{lo hi n:Int}(h:lo<=n/\n<=hi):Fc lo hi n=true:=by unfold Fc;simp;omega
structure LineG(i:Nat)(fr tx H:Int)(x:LineD):Prop where
 name:x.name=[108,Avw.getD i 0]
 fr:x.fr=fr
 tx:x.tl=tx
 re:(Q4 x.re&&decide (x.re.num>0))=true
 smin:(Q4 x.smin&&decide (x.smin.num<=0))=true
 smax:(Q4 x.smax&&decide (x.smax.num>=0))=true
 lim:Fc 0 1048576 x.limit=true
 em:Fc x.limit 1048576 x.emer=true
 aw:x.away.l.length<=1
 awr:∀ y∈x.away.l,0<=y/\y<H
def wE{f:FracD}(h:1<=f.den/\f.den<=1048576/\-1048576<=f.num/\f.num<=1048576):Q4 f=true:=by unfold Q4;rw[H2 (by omega),H2 (by omega)];rfl
def Vc{B:List Int}:take (B.length*1) (Aj B)=B.flatMap CM:=by rw[Ax4,Axl (by rw[Io];exact Axo _),Fm]
def wF{N:Nat}{l:List Int}{t o:Bool}(D:l.length<=9223372036854775807){i:Nat}(hi:i<16)(fr tx:Int){H:Int}(hH:1<=H/\H<=24)(k:Nat)(hk:k<=l.length):
  ∃(x:LineD)(k':Nat),LineG i fr tx H x/\k'<=l.length/\∀ K:LA->Int->O R,Sd N (i:Int) fr tx H (Aj l) l.length t o (k:Int) K=K x.av (k':Int):=by
 obtain⟨y2,ky2,y20,y21,Y,hy2⟩:=nx (R:=R) (N:=N) (t:=t) (o:=o) D 4 (by omega) (by omega) k hk
 obtain⟨y4,ky4,y40,y41,hky4,hy4⟩:=nx (R:=R) (N:=N) (t:=t) (o:=o) D 2 (by omega) (by omega) ky2 Y
 obtain⟨y6,ky6,y60,y61,hky6,hy6⟩:=nx (R:=R) (N:=N) (t:=t) (o:=o) D 40 (by omega) (by omega) ky4 hky4
 obtain⟨y8,ky8,y80,y81,hky8,hy8⟩:=nx (R:=R) (N:=N) (t:=t) (o:=o) D 20 (by omega) (by omega) ky6 hky6
 obtain⟨y10,ky10,y100,y101,C,G⟩:=nx (R:=R) (N:=N) (t:=t) (o:=o) D 5 (by omega) (by omega) ky8 hky8
 by_cases h4:y10=4
 ·have e4:(y10==4)=true:=by simpa using h4
  obtain⟨y12,ky12,y120,y121,I,hy12⟩:=nx (R:=R) (N:=N) (t:=t) (o:=o) D 4 (by omega) (by omega) ky10 C
  obtain⟨y14,ky14,y140,y141,L,hy14⟩:=nx (R:=R) (N:=N) (t:=t) (o:=o) D 2 (by omega) (by omega) ky12 I
  obtain⟨y16,ky16,y160,y161,T,hy16⟩:=nx (R:=R) (N:=N) (t:=t) (o:=o) D 4 (by omega) (by omega) ky14 L
  obtain⟨B,kB,b1,b2,hkB,hB⟩:=jP (R:=R) (N:=N) (t:=t) (o:=o) D H hH.1 (by omega) ky16 T
  refine⟨⟨[108,Avw.getD i 0],fr,tx,⟨1+y2,1+y4⟩,⟨0 - y12,1+y14⟩,⟨y16,1⟩,4+y6,4+y6+y8,.of B false false⟩,kB,⟨rfl,rfl,rfl,?_,?_,?_,H2 (by simp only;omega),H2 (by simp only;omega),b1,b2⟩,hkB,fun K=>?_⟩
  ·rw[wE (by simp only;omega)];simp;omega
  ·rw[wE (by simp only;omega)];simp;omega
  ·rw[wE (by simp only;omega)];simp;omega
  ·rw[Ut];unfold Vq
   rw[Rt hi,hy2,hy4,hy6,hy8,G,e4,ct,hy12,hy14,hy16,hB,Vc,Pa (a:=1+y2) (by omega),Pa (a:=1+y4) (by omega),Pa (a:=0 - y12) (by omega),Pa (a:=1+y14) (by omega),Pa (a:=4+y6) (by omega),Pa (a:=4+y6+y8) (by omega)]
   rfl
 ·have e4:(y10==4)=false:=by simpa using h4
  obtain⟨B,kB,b1,b2,hkB,hB⟩:=jP (R:=R) (N:=N) (t:=t) (o:=o) D H hH.1 (by omega) ky10 C
  refine⟨⟨[108,Avw.getD i 0],fr,tx,⟨1+y2,1+y4⟩,⟨0,1⟩,⟨0,1⟩,4+y6,4+y6+y8,.of B false false⟩,kB,⟨rfl,rfl,rfl,?_,?_,?_,H2 (by simp only;omega),H2 (by simp only;omega),b1,b2⟩,hkB,fun K=>?_⟩
  ·rw[wE (by simp only;omega)];simp;omega
  ·rw[wE (by simp only;omega)];simp
  ·rw[wE (by simp only;omega)];simp
  ·rw[Ut];unfold Vq
   rw[Rt hi,hy2,hy4,hy6,hy8,G,e4,cf,hB,Vc,Pa (a:=1+y2) (by omega),Pa (a:=1+y4) (by omega),Pa (a:=4+y6) (by omega),Pa (a:=4+y6+y8) (by omega)]
   rfl
structure UnitG(i:Nat)(nb H:Int)(u:UnitD):Prop where
 name:u.name=[117,Avw.getD i 0]
 bus:0<=u.bus/\u.bus<nb
 min:Fc 0 1048576 u.min=true
 max:Fc u.min 1048576 u.max=true
 sl:1<=u.segs.l.length/\u.segs.l.length<=8
 sok:u.segs.l.all Ed=true
 sord:TL u.segs.l=true
 ssum:(NE 0 u.segs.l==wrap .i64 (u.max - u.min))=true
 noLoad:Fc 0 1048576 u.noLoad=true
 rampUp:Fc 0 1048576 u.rampUp=true
 rampDown:Fc 0 1048576 u.rampDown=true
 startRamp:Fc u.min u.max u.startRamp=true
 stopRamp:Fc u.min u.max u.stopRamp=true
 upTime:Fc 0 24 u.upTime=true
 downTime:Fc 0 24 u.downTime=true
 startTime:Fc 0 24 u.startTime=true
 hotCost:Fc 0 1048576 u.hotCost=true
 coldCost:Fc 0 1048576 u.coldCost=true
 hotHours:Fc 0 24 u.hotHours=true
 reserve:Fc 0 1048576 u.reserve=true
 reservePrice:Fc 0 1048576 u.reservePrice=true
 aw:u.away.l.length<=1
 awr:∀ y∈u.away.l,0<=y/\y<H
 state:Fc 0 2 u.state=true
 starting:(u.state != 1||u.startTime != 0)=true
 hours:Fc 1 48 u.hours=true
 started:(u.state != 1||decide (u.hours<=u.startTime))=true
 output:cond (u.state==2) (Fc u.min u.max u.output) (Fc 0 0 u.output)=true
def wG{s:SegD}:∀{S:List SegD},TL S=true->(∀ x∈S,x.price<=s.price)->TL (S++[s])=true
|[],_,_=>rz s
|[a],_,h=>by
  rw[Ayu,A0e,NF,rz]
  have:=h a (by simp);simp;omega
|a::b::r,k,h=>by
  rw[NF]at k
  simp only[Axr]at k
  rw[Ayu,Ayu,NF,k.1]
  have:=wG (S:=b::r) k.2 (fun x D=>h x (by rcases Ax7.1 D with C|C<;>simp[C]))
  simpa using this
def wH{s:SegD}:∀{S:List SegD}{a:Int},NE a (S++[s])=wrap .i64 (NE a S+s.width)
|[],a=>rfl
|x::r,a=>by rw[Ayu,NE,NE];exact wH
def Apd(S:List SegD):(S.flatMap SegD.av).length=S.length*2:=by
 induction S with
|nil=>rfl
|cons e r k=>rw[Aye,Ax1,k,CS];simp;omega
def jQ{S:List SegD}{n:Nat}(h:n=S.length):take (n*2) (S.flatMap SegD.av)=S.flatMap SegD.av:=Axl (by rw[Apd,h];exact Axo _)
def wI{N:Nat}{l:List Int}{t o:Bool}(C:l.length<=9223372036854775807){i:Nat}{nb H bus mn noLoad:Int}(hb:0<=bus/\bus<nb)(hmn:0<=mn/\mn<8)(hno:0<=noLoad/\noLoad<20)(hH:1<=H/\H<=24):∀(n fuel:Nat)(p:Int)(k:Nat)(M:Int)(S:List SegD),n<fuel->k<=l.length->S.length+n<=2->1<=S.length+n->(∀ x∈S,x.price<=p/\Ed x=true)->TL S=true->NE 0 S=M - mn->0<=M - mn->M - mn<=15*S.length->-10<=p->p<=20+10*S.length ->
  ∃(u:UnitD)(k':Nat),UnitG i nb H u/\k'<=l.length/\∀ K:LA->Int->O R,E2 N K H (Aj l) l.length t o [117,Avw.getD i 0] bus mn noLoad fuel p (n:Int) (k:Int) M S.length (S.flatMap SegD.av)=K u.av (k':Int)
| 0,fuel+1,p,k,M,S,_,hk,hS,hS1,hp,ho,hw,hM0,hM1,_,_=>by
  obtain⟨y16,ky16,y160,y161,I,hy16⟩:=nx (R:=R) (N:=N) (t:=t) (o:=o) C 20 (by omega) (by omega) k hk
  obtain⟨y18,ky18,y180,y181,L,hy18⟩:=nx (R:=R) (N:=N) (t:=t) (o:=o) C 20 (by omega) (by omega) ky16 I
  obtain⟨y20,ky20,y200,y201,T,hy20⟩:=nx (R:=R) (N:=N) (t:=t) (o:=o) C (M - mn+1) (by omega) (by omega) ky18 L
  obtain⟨y22,ky22,y220,y221,Y,hy22⟩:=nx (R:=R) (N:=N) (t:=t) (o:=o) C (M - mn+1) (by omega) (by omega) ky20 T
  obtain⟨y24,ky24,y240,y241,hky24,hy24⟩:=nx (R:=R) (N:=N) (t:=t) (o:=o) C 3 (by omega) (by omega) ky22 Y
  obtain⟨y26,ky26,y260,y261,hky26,hy26⟩:=nx (R:=R) (N:=N) (t:=t) (o:=o) C 3 (by omega) (by omega) ky24 hky24
  obtain⟨y28,ky28,y280,y281,hky28,hy28⟩:=nx (R:=R) (N:=N) (t:=t) (o:=o) C 2 (by omega) (by omega) ky26 hky26
  obtain⟨y30,ky30,y300,y301,hky30,hy30⟩:=nx (R:=R) (N:=N) (t:=t) (o:=o) C 30 (by omega) (by omega) ky28 hky28
  obtain⟨y32,ky32,y320,y321,hky32,hy32⟩:=nx (R:=R) (N:=N) (t:=t) (o:=o) C 30 (by omega) (by omega) ky30 hky30
  obtain⟨y34,ky34,y340,y341,hky34,hy34⟩:=nx (R:=R) (N:=N) (t:=t) (o:=o) C 4 (by omega) (by omega) ky32 hky32
  obtain⟨y36,ky36,y360,y361,hky36,hy36⟩:=nx (R:=R) (N:=N) (t:=t) (o:=o) C 8 (by omega) (by omega) ky34 hky34
  obtain⟨y38,ky38,y380,y381,hky38,hy38⟩:=nx (R:=R) (N:=N) (t:=t) (o:=o) C 4 (by omega) (by omega) ky36 hky36
  obtain⟨B,kB,b1,b2,hkB,hB⟩:=jP (R:=R) (N:=N) (t:=t) (o:=o) C H hH.1 (by omega) ky38 hky38
  obtain⟨y43,ky43,y430,y431,hky43,hy43⟩:=nx (R:=R) (N:=N) (t:=t) (o:=o) C (2+y28) (by omega) (by omega) kB hkB
  obtain⟨y46,ky46,y460,y461,D,hy46⟩:=nx (R:=R) (N:=N) (t:=t) (o:=o) C 4 (by omega) (by omega) ky43 hky43
  have i43:Ac y43 3=true:=wD y430 (by omega)
  obtain⟨x45,hx45,hst⟩:∃ x45:Int,(∀ f:Int->O R,Aq .i64 (drop (0+((Int.toNat y43)*1)) [.int .i64 (0:Int),.int .i64 (2:Int),.int .i64 (1:Int)]) f=f x45)/\(x45=0\/x45=2\/(x45=1/\y28=1)):=by
   have e:[.int .i64 (0:Int),.int .i64 (2:Int),.int .i64 (1:Int)]=Aj [0,2,1]:=rfl
   refine⟨([0,2,1]:List Int).getD y43.toNat 0,fun f=>by rw[e,Anm (by simp;omega)],?_⟩
   have:y43=0\/y43=1\/y43=2:=by omega
   rcases this with rfl|rfl|rfl
   ·left;rfl
   ·right;left;rfl
   ·right;right;exact⟨rfl,by omega⟩
  have wM:wrap .i64 (wrap .i64 (M - mn)+1)=M - mn+1:=by rw[Pa (a:=M - mn) (by omega),Pa (by omega)]
  have head:∀ K:LA->Int->O R,E2 N K H (Aj l) l.length t o [117,Avw.getD i 0] bus mn noLoad (fuel+1) p ((0:Nat):Int) (k:Int) M S.length (S.flatMap SegD.av) =
    Ls N K (Aj l) l.length t o (ky46:Int) [117,Avw.getD i 0] bus mn M S.length noLoad y16 y18 y24 y26 y28 y30 y34 y36 y38 B.length x45 (S.flatMap SegD.av) (Aj B) (mn+y20) (mn+y22) (y30+y32) (cond (x45==1) 1 (1+y46)):=fun K=>by
   rw[E2];unfold O0
   rw[show decide (((0:Nat):Int)>0)=false from rfl,cf,wM,hy16,hy18,hy20,hy22,hy24,hy26,hy28,hy30,hy32,hy34,hy36,hy38,hB,Pa (a:=2+y28) (by omega),hy43,i43,ct,hx45,hy46,Pa (a:=mn+y20) (by omega),Pa (a:=mn+y22) (by omega),Pa (a:=y30+y32) (by omega),Pa (a:=1+y46) (by omega)]
   cases x45==1<;>rfl
  have hhr:1<=(cond (x45==1) (1:Int) (1+y46))/\(cond (x45==1) (1:Int) (1+y46))<=4:=by cases x45==1<;>simp<;>omega
  have hst1:x45=1->cond (x45==1) (1:Int) (1+y46)=1:=by intro e;subst e;rfl
  have sall:S.all Ed=true:=by rw[A04];exact fun x hx=>(hp x hx).2
  have ssum:(NE 0 S==wrap .i64 (M - mn))=true:=by rw[Pa (a:=M - mn) (by omega),hw];simp
  have starting:(x45 != 1||y28 != 0)=true:=by
   rcases hst with h|h|⟨h,h'⟩
   ·rw[h];rfl
   ·rw[h];rfl
   ·rw[h,h'];rfl
  have started:(x45 != 1||decide ((cond (x45==1) (1:Int) (1+y46))<=y28))=true:=by
   rcases hst with h|h|⟨h,h'⟩
   ·rw[h];rfl
   ·rw[h];rfl
   ·rw[h,h'];rfl
  have stR:Fc 0 2 x45=true:=H2 (by omega)
  by_cases G:x45=2
  ·obtain⟨y48,ky48,y480,y481,hky48,hy48⟩:=nx (R:=R) (N:=N) (t:=t) (o:=o) C (M - mn+1) (by omega) (by omega) ky46 D
   refine⟨⟨[117,Avw.getD i 0],bus,mn,M,.of S false false,noLoad,y16,y18,mn+y20,mn+y22,y24,y26,y28,y30,y30+y32,y34,y36,y38,.of B false false,x45,cond (x45==1) 1 (1+y46),mn+y48⟩,ky48,
    ⟨rfl,hb,H2 (by simp only;omega),H2 (by simp only;omega),by simp only[Sl.l];omega,sall,ho,ssum,H2 (by simp only;omega),H2 (by simp only;omega),H2 (by simp only;omega),H2 (by simp only;omega),H2 (by simp only;omega),H2 (by simp only;omega),H2 (by simp only;omega),H2 (by simp only;omega),H2 (by simp only;omega),H2 (by simp only;omega),H2 (by simp only;omega),H2 (by simp only;omega),H2 (by simp only;omega),b1,b2,stR,starting,H2 (by simp only;omega),started,?_⟩,hky48,fun K=>?_⟩
   ·have:(x45==2)=true:=by simpa using G
    simp only[this,cond_true];exact H2 (by omega)
   ·rw[head];unfold Ls
    have:(x45==2)=true:=by simpa using G
    rw[this,ct,wM,hy48,Pa (a:=mn+y48) (by omega),jQ rfl,Vc]
    rfl
  ·refine⟨⟨[117,Avw.getD i 0],bus,mn,M,.of S false false,noLoad,y16,y18,mn+y20,mn+y22,y24,y26,y28,y30,y30+y32,y34,y36,y38,.of B false false,x45,cond (x45==1) 1 (1+y46),0⟩,ky46,
    ⟨rfl,hb,H2 (by simp only;omega),H2 (by simp only;omega),by simp only[Sl.l];omega,sall,ho,ssum,H2 (by simp only;omega),H2 (by simp only;omega),H2 (by simp only;omega),H2 (by simp only;omega),H2 (by simp only;omega),H2 (by simp only;omega),H2 (by simp only;omega),H2 (by simp only;omega),H2 (by simp only;omega),H2 (by simp only;omega),H2 (by simp only;omega),H2 (by simp only;omega),H2 (by simp only;omega),b1,b2,stR,starting,H2 (by simp only;omega),started,?_⟩,D,fun K=>?_⟩
   ·have:(x45==2)=false:=by simpa using G
    simp only[this,cond_false];exact H2 (by omega)
   ·rw[head];unfold Ls
    have:(x45==2)=false:=by simpa using G
    rw[this,cf,jQ rfl,Vc]
    rfl
| n+1,fuel+1,p,k,M,S,hf,hk,hS,hS1,hp,ho,hw,hM0,hM1,hp0,hp1=>by
  obtain⟨y12,ky12,y120,y121,hky12,hy12⟩:=nx (R:=R) (N:=N) (t:=t) (o:=o) C 15 (by omega) (by omega) k hk
  obtain⟨y14,ky14,y140,y141,hky14,hy14⟩:=nx (R:=R) (N:=N) (t:=t) (o:=o) C 10 (by omega) (by omega) ky12 hky12
  obtain⟨u,k',g1,g2,g3⟩:=wI (N:=N) (t:=t) (o:=o) (i:=i) (nb:=nb) (H:=H) (bus:=bus) (mn:=mn) (noLoad:=noLoad) C hb hmn hno hH n fuel (p+y14) ky14 (M+(1+y12)) (S++[(⟨1+y12,p⟩:SegD)]) (by omega) hky14 (by simp;omega) (by simp;omega) (by
   intro x hx
   rcases Axz.1 hx with h|h
   ·have:=hp x h;exact⟨by omega,this.2⟩
   ·simp at h;subst h
    refine⟨by simp only;omega,?_⟩
    unfold Ed;rw[H2 (by simp only;omega),H2 (by simp only;omega)];rfl) (wG ho fun x hx=>(hp x hx).1) (by rw[wH,hw,Pa (by simp only;omega)];simp only;omega) (by omega) (by simp;omega) (by omega) (by simp;omega)
  refine⟨u,k',g1,g2,fun K=>?_⟩
  rw[E2];unfold O0
  have c3:(ble (S.length+1) 140737488355328&&ble ((S.length+1)*16) 140737488355328)=true:=by rw[Ey,Ey];simp;omega
  have c5:take (S.length*2) (S.flatMap SegD.av)++[.int .i64 (1+y12),.int .i64 p]=(S++[(⟨1+y12,p⟩:SegD)]).flatMap SegD.av:=by rw[jQ rfl];simp[SegD.av]
  have wn:wrap .i64 (((n+1:Nat):Int) - 1)=(n:Int):=rt (by omega)
  rw[show decide (((n+1:Nat):Int)>0)=true from decide_eq_true (by omega),ct,hy12,c3,ct,hy14,Pa (a:=1+y12) (by omega),Pa (a:=p+y14) (by omega),wn,Pa (a:=M+(1+y12)) (by omega),c5]
  have:=g3 K
  rw[Ax1]at this
  exact this
def Aj5{N:Nat}{l:List Int}{t o:Bool}(hN:8<=N)(D:l.length<=9223372036854775807){i:Nat}(hi:i<16){nb H:Int}(hnb:1<=nb/\nb<=1000)(hH:1<=H/\H<=24)(k:Nat)(hk:k<=l.length):
  ∃(u:UnitD)(k':Nat),UnitG i nb H u/\k'<=l.length/\∀ K:LA->Int->O R,Se N (i:Int) nb H (Aj l) l.length t o (k:Int) K=K u.av (k':Int):=by
 obtain⟨y2,ky2,y20,y21,G,hy2⟩:=nx (R:=R) (N:=N) (t:=t) (o:=o) D nb (by omega) (by omega) k hk
 obtain⟨y4,ky4,y40,y41,I,hy4⟩:=nx (R:=R) (N:=N) (t:=t) (o:=o) D 8 (by omega) (by omega) ky2 G
 obtain⟨y6,ky6,y60,y61,L,hy6⟩:=nx (R:=R) (N:=N) (t:=t) (o:=o) D 20 (by omega) (by omega) ky4 I
 obtain⟨y8,ky8,y80,y81,T,hy8⟩:=nx (R:=R) (N:=N) (t:=t) (o:=o) D 20 (by omega) (by omega) ky6 L
 obtain⟨y10,ky10,y100,y101,C,Y⟩:=nx (R:=R) (N:=N) (t:=t) (o:=o) D 2 (by omega) (by omega) ky8 T
 obtain⟨n,hn⟩:∃ n:Nat,1+y10=(n:Int):=⟨(1+y10).toNat,by omega⟩
 obtain⟨u,k',g1,g2,g3⟩:=wI (R:=R) (N:=N) (l:=l) (t:=t) (o:=o) D (i:=i) (nb:=nb) (H:=H) (bus:=y2) (mn:=y4) (noLoad:=y6) ⟨y20,y21⟩ ⟨y40,y41⟩ ⟨y60,y61⟩ hH n N (y8 - 2) ky10 y4 [] (by omega) C (by simp;omega) (by simp;omega) (by simp) Acm (by simp[NE]) (by omega) (by simp) (by omega) (by simp;omega)
 refine⟨u,k',g1,g2,fun K=>?_⟩
 rw[HD];unfold Vr
 rw[Rt hi,hy2,hy4,hy6,hy8,Y,Pa (a:=y8 - 2) (by omega),Pa (a:=1+y10) (by omega),hn]
 simpa using g3 K
structure OutG(i:Nat)(nl nu:Nat)(x:OutD):Prop where
 name:x.name=[111,Avw.getD i 0]
 ll:x.lines.l.length=1\/x.lines.l.length=2
 lr:∀ y∈x.lines.l,0<=y/\y<(nl:Int)
 la:asc x.lines.l=true
 ml:x.moves.l.length<=nu
 mc:((x.moves.l.length:Int)==0||x.corr)=true
 mr:∀ m∈x.moves.l,0<=m.unit/\m.unit<(nu:Int)
 ma:asc (x.moves.l.map (·.unit))=true
 mi:x.moves.l.all Aj0=true
def Acu{s:Int}:∀{S:List Int},asc S=true->(∀ x∈S,x<s)->asc (S++[s])=true
|[],_,_=>fX s
|[a],_,h=>by
  rw[Ayu,A0e,IT,fX]
  have:=h a (by simp);simp;omega
|a::b::r,k,h=>by
  rw[IT]at k
  simp only[Axr]at k
  rw[Ayu,Ayu,IT,k.1]
  have:=Acu (S:=b::r) k.2 (fun x D=>h x (by rcases Ax7.1 D with C|C<;>simp[C]))
  simpa using this
def Ans(S:List MoveD):(S.flatMap MoveD.av).length=S.length*3:=by
 induction S with
|nil=>rfl
|cons e r k=>rw[Aye,Ax1,k,O9];simp;omega
def jR{N:Nat}{l:List Int}{t o:Bool}(Y:l.length<=9223372036854775807){i nl nu:Nat}(hnu:nu<=16){B:List Int}(hB1:B.length=1\/B.length=2)(hB2:∀ y∈B,0<=y/\y<(nl:Int))(hB3:asc B=true):∀(m j fuel:Nat)(k:Nat)(S:List MoveD),j+m=nu->m<fuel->k<=l.length->S.length<=j->(∀ x∈S,0<=x.unit/\x.unit<(j:Int))->asc (S.map (·.unit))=true->S.all Aj0=true ->
  ∃(x:OutD)(L:Nat),OutG i nl nu x/\L<=l.length/\∀ K:LA->Int->O R,Eo N K (nu:Int) (Aj l) l.length t o [111,Avw.getD i 0] B.length (Aj B) fuel (j:Int) (k:Int) S.length (S.flatMap MoveD.av)=K x.av (L:Int)
|0,j,fuel+1,k,S,hj,_,hk,hS,hr,ha,hi=>by
  have hju:j=nu:=by omega
  subst hju
  refine⟨⟨[111,Avw.getD i 0],.of B false false,true,.of S false false⟩,k,⟨rfl,hB1,hB2,hB3,hS,by simp,hr,ha,hi⟩,hk,fun K=>?_⟩
  rw[Eo];unfold Hd
  rw[Ki (Axo _),cf,Vc,Axl (by rw[Ans];exact Axo _)]
  rfl
| m+1,j,fuel+1,k,S,hj,hf,hk,hS,hr,ha,hi=>by
  obtain⟨y10,ky10,y100,y101,C,D⟩:=nx (R:=R) (N:=N) (t:=t) (o:=o) Y 2 (by omega) (by omega) k hk
  by_cases h1:y10=1
  ·obtain⟨y12,ky12,y120,y121,G,hy12⟩:=nx (R:=R) (N:=N) (t:=t) (o:=o) Y 8 (by omega) (by omega) ky10 C
   obtain⟨y14,ky14,y140,y141,I,hy14⟩:=nx (R:=R) (N:=N) (t:=t) (o:=o) Y 8 (by omega) (by omega) ky12 G
   obtain⟨x,L,g1,g2,g3⟩:=jR (N:=N) (t:=t) (o:=o) (i:=i) (nl:=nl) (nu:=nu) Y hnu hB1 hB2 hB3 m (j+1) fuel ky14 (S++[(⟨j,y12,y14⟩:MoveD)]) (by omega) (by omega) I (by simp;omega) (by
    intro x T
    rcases Axz.1 T with h|h
    ·have:=hr x h;omega
    ·simp at h;subst h;simp only;omega) (by
    rw[Azw];exact Acu ha (by
     intro x T
     simp only[Ayy]at T
     obtain⟨y,hy,rfl⟩:=T
     exact(hr y hy).2)) (by
    rw[List.all_append,hi]
    simp only[Az3,A2m,A0p,A3c]
    unfold Aj0;rw[H2 (by simp only;omega),H2 (by simp only;omega)];rfl)
   refine⟨x,L,g1,g2,fun K=>?_⟩
   rw[Eo];unfold Hd
   have e1:(y10==1)=true:=by simpa using h1
   have c3:(ble (S.length+1) 140737488355328&&ble ((S.length+1)*24) 140737488355328)=true:=by rw[Ey,Ey];simp;omega
   have c5:take (S.length*3) (S.flatMap MoveD.av)++[.int .i64 (j:Int),.int .i64 y12,.int .i64 y14]=(S++[(⟨j,y12,y14⟩:MoveD)]).flatMap MoveD.av:=by
    rw[Axl (by rw[Ans];exact Axo _)];simp[MoveD.av]
   rw[Jo (by omega),ct,D,e1,ct,hy12,hy14,c3,ct,c5,Fb (by omega)]
   have:=g3 K
   rw[Ax1]at this
   exact this
  ·obtain⟨x,L,g1,g2,g3⟩:=jR (N:=N) (t:=t) (o:=o) (i:=i) (nl:=nl) (nu:=nu) Y hnu hB1 hB2 hB3 m (j+1) fuel ky10 S (by omega) (by omega) C (by omega) (by intro x T;have:=hr x T;omega) ha hi
   refine⟨x,L,g1,g2,fun K=>?_⟩
   rw[Eo];unfold Hd
   have e1:(y10==1)=false:=by simpa using h1
   rw[Jo (by omega),ct,D,e1,cf,Fb (by omega),g3]
def wJ{N:Nat}{l:List Int}{t o:Bool}(hN:64<=N)(L:l.length<=9223372036854775807){i nl nu:Nat}(I:nu<=16){B:List Int}(hB1:B.length=1\/B.length=2)(hB2:∀ y∈B,0<=y/\y<(nl:Int))(hB3:asc B=true)(k:Nat)(Y:k<=l.length):
  ∃(x:OutD)(G:Nat),OutG i nl nu x/\G<=l.length/\∀ K:LA->Int->O R,Ep N K (nu:Int) (Aj l) l.length t o [111,Avw.getD i 0] (k:Int) B.length (Aj B)=K x.av (G:Int):=by
 obtain⟨y8,ky8,y80,y81,C,D⟩:=nx (R:=R) (N:=N) (t:=t) (o:=o) L 2 (by omega) (by omega) k Y
 by_cases T:y8=1
 ·obtain⟨x,G,g1,g2,g3⟩:=jR (R:=R) (N:=N) (t:=t) (o:=o) (i:=i) (nl:=nl) (nu:=nu) L I hB1 hB2 hB3 nu 0 N ky8 [] (by omega) (by omega) C (by simp) (by simp) yq rfl
  refine⟨x,G,g1,g2,fun K=>?_⟩
  unfold Ep Kj
  have e1:(y8==1)=true:=by simpa using T
  rw[D,e1,ct]
  simpa using g3 K
 ·refine⟨⟨[111,Avw.getD i 0],.of B false false,false,.of [] false false⟩,ky8,⟨rfl,hB1,hB2,hB3,by simp[Sl.l],by simp[Sl.l],by simp[Sl.l],yq,rfl⟩,C,fun K=>?_⟩
  unfold Ep Kj
  have e1:(y8==1)=false:=by simpa using T
  rw[D,e1,cf,Vc]
  rfl
def Acv{N:Nat}{l:List Int}{t o:Bool}(hN:64<=N)(T:l.length<=9223372036854775807){i nl nu:Nat}(hi:i<16)(hnl:1<=nl/\nl<=1000)(Y:nu<=16)(k:Nat)(hk:k<=l.length):
  ∃(x:OutD)(C:Nat),OutG i nl nu x/\C<=l.length/\∀ K:LA->Int->O R,Nn N (i:Int) (nl:Int) (nu:Int) (Aj l) l.length t o (k:Int) K=K x.av (C:Int):=by
 obtain⟨y2,ky2,y20,y21,hky2,I⟩:=nx (R:=R) (N:=N) (t:=t) (o:=o) T (nl:Int) (by omega) (by omega) k hk
 obtain⟨y4,ky4,y40,y41,D,L⟩:=nx (R:=R) (N:=N) (t:=t) (o:=o) T (nl:Int) (by omega) (by omega) ky2 hky2
 have one:∀ k0,k0<=l.length->∃(x:OutD)(C:Nat),OutG i nl nu x/\C<=l.length/\∀ K:LA->Int->O R,Ep N K (nu:Int) (Aj l) l.length t o [111,Avw.getD i 0] (k0:Int) 1 [.int .i64 y2]=K x.av (C:Int):=fun k0 hk0 =>
  wJ (i:=i) (nl:=nl) hN T Y (B:=[y2]) (.inl rfl) (by intro y hy;simp at hy;subst hy;exact⟨y20,y21⟩) (fX _) k0 hk0
 by_cases h1:y4>y2
 ·obtain⟨y6,ky6,y60,y61,G,hy6⟩:=nx (R:=R) (N:=N) (t:=t) (o:=o) T 3 (by omega) (by omega) ky4 D
  by_cases h2:y6=2
  ·obtain⟨x,C,g1,g2,g3⟩:=wJ (R:=R) (N:=N) (t:=t) (o:=o) (i:=i) (nl:=nl) (nu:=nu) hN T Y (B:=[y2,y4]) (.inr rfl) (by intro y hy;simp at hy;rcases hy with rfl|rfl<;>omega) (by rw[IT,fX];simp;omega) ky6 G
   refine⟨x,C,g1,g2,fun K=>?_⟩
   rw[Kk];unfold H6
   have e1:decide (y4>y2)=true:=by simpa using h1
   have e2:(y6==2)=true:=by simpa using h2
   rw[Rt hi,I,L,e1,hy6,e2]
   simpa[Aj]using g3 K
  ·obtain⟨x,C,g1,g2,g3⟩:=one ky6 G
   refine⟨x,C,g1,g2,fun K=>?_⟩
   rw[Kk];unfold H6
   have e1:decide (y4>y2)=true:=by simpa using h1
   have e2:(y6==2)=false:=by simpa using h2
   rw[Rt hi,I,L,e1,hy6,e2]
   exact g3 K
 ·obtain⟨x,C,g1,g2,g3⟩:=one ky4 D
  refine⟨x,C,g1,g2,fun K=>?_⟩
  rw[Kk];unfold H6
  have e1:decide (y4>y2)=false:=by simpa using h1
  rw[Rt hi,I,L,e1]
  exact g3 K
def uC(f:Bool)(H:Nat)(res:List Int)(bs:List BusD)(ls:List LineD)(us:List UnitD)(ss:List StoreD)(ts:List TieD)(os:List OutD):CaseD:=⟨(H:Int),.of res false f,.of bs false f,.of ls false f,.of us false f,.of ss false f,.of ts false f,.of os false f⟩
structure BusG(i H:Nat)(b:BusD):Prop where
 name:b.name=[98,Avw.getD i 0]
 dl:b.demand.l.length=H
 dr:∀ x∈b.demand.l,0<=x/\x<14
 shed:0<=b.shed/\b.shed<300
structure StoreG(nb:Nat)(x:StoreD):Prop where
 name:x.name=[115,48]
 bus:0<=x.bus/\x.bus<(nb:Int)
 cap:0<=x.capacity/\x.capacity<20
 ini:0<=x.initial/\x.initial<=x.capacity
 fin:0<=x.final/\x.final<=x.capacity
 ch:0<=x.charge/\x.charge<8
 dis:0<=x.discharge/\x.discharge<8
 eff:1<=x.eff.num/\x.eff.num<=4/\x.eff.den=4
structure TieG(nb H:Nat)(x:TieD):Prop where
 name:x.name=[116,48]
 bus:0<=x.bus/\x.bus<(nb:Int)
 il:x.imp.l.length=H
 ir:∀ y∈x.imp.l,0<=y/\y<12
 el:x.exp.l.length=H
 er:∀ y∈x.exp.l,0<=y/\y<12
 pl:x.price.l.length=H
 pr:∀ y∈x.price.l,0<=y/\y<40
structure LineH(nb:Nat)(i:Nat)(H:Int)(x:LineD):Prop where
 g:LineG i x.fr x.tl H x
 fr:0<=x.fr/\x.fr<(nb:Int)
 tx:0<=x.tl/\x.tl<(nb:Int)
 ne:x.fr≠x.tl
structure BaseG(H:Nat)(res:List Int)(bs:List BusD)(ls:List LineD)(us:List UnitD)(ss:List StoreD)(ts:List TieD):Prop where
 h:1<=H/\H<=3
 rl:res.length=H
 rr:∀ x∈res,0<=x/\x<5
 bl:1<=bs.length/\bs.length<=4
 bg:∀ i (h:i<bs.length),BusG i H bs[i]
 ll:ls.length<=7
 lg:∀ i (h:i<ls.length),LineH bs.length i H ls[i]
 ul:1<=us.length/\us.length<=3
 ug:∀ i (h:i<us.length),UnitG i bs.length H us[i]
 sl:ss.length<=1
 sg:∀ x∈ss,StoreG bs.length x
 tl:ts.length<=1
 tg:∀ x∈ts,TieG bs.length H x
structure OutsG(nl nu:Nat)(os:List OutD):Prop where
 l:os.length<=3
 g:∀ i (h:i<os.length),OutG i nl nu os[i]
def Aj6{N:Nat}(hN:4096<=N){f:Bool}{H:Nat}{res:List Int}{bs:List BusD}{ls:List LineD}{us:List UnitD}{ss:List StoreD}{ts:List TieD}{os:List OutD}(b:BaseG H res bs ls us ss ts)(g:OutsG ls.length us.length os):Small (uC f H res bs ls us ss ts os) N:=by
 have h:=b.h;have rl:=b.rl;have bl:=b.bl;have ll:=b.ll;have ul:=b.ul;have sl:=b.sl;have tl:=b.tl;have ol:=g.l
 have fit:∀ n:Nat,n<=100->Q3 n N:=fun n hn=>⟨by omega,by omega⟩
 refine⟨by omega,fit _ (by simp only[uC,Sl.l];omega),fit _ (by simp only[uC,Sl.l];omega),fit _ (by simp only[uC,Sl.l];omega),fit _ (by simp only[uC,Sl.l];omega),fit _ (by simp only[uC,Sl.l];omega),fit _ (by simp only[uC,Sl.l];omega),fit _ (by simp only[uC,Sl.l];omega),
  fun x k=>?_,fun x k=>?_,fun x k=>?_,fun x k=>?_,fun x k=>?_,fun x k=>?_,fun x k=>?_,fun x k=>?_,fun x k=>?_,fun x k=>?_,by simp only[uC,Sl.l];omega⟩
 all_goals simp only[uC,Sl.l]at k
 ·obtain⟨i,hi,rfl⟩:=Azc k;have:=(b.bg i hi).dl;exact fit _ (by omega)
 ·obtain⟨i,hi,rfl⟩:=Azc k;have:=(b.lg i hi).g.aw;exact fit _ (by omega)
 ·obtain⟨i,hi,rfl⟩:=Azc k;have:=(b.ug i hi).sl;exact fit _ (by omega)
 ·obtain⟨i,hi,rfl⟩:=Azc k;have:=(b.ug i hi).aw;exact fit _ (by omega)
 ·have:=(b.tg x k).il;exact fit _ (by omega)
 ·have:=(b.tg x k).el;exact fit _ (by omega)
 ·have:=(b.tg x k).pl;exact fit _ (by omega)
 ·obtain⟨i,hi,rfl⟩:=Azc k;have:=(g.g i hi).ll;exact fit _ (by omega)
 ·obtain⟨i,hi,rfl⟩:=Azc k;have:=(g.g i hi).ml;exact fit _ (by omega)
 ·obtain⟨i,hi,rfl⟩:=Azc k;have:=(g.g i hi).ml;omega
def Ant{α:Type}{e:α->LA}{sz:Nat}(k:∀ a,(e a).length=sz)(l:List α):(l.flatMap e).length=l.length*sz:=by
 induction l with
|nil=>simp
|cons a r C=>rw[Aye,Ax1,C,k,Ayb,Ax2];omega
def B0{α:Type}{e:α->LA}{sz n:Nat}(k:∀ a,(e a).length=sz)(l:List α)(hn:n=l.length):take (n*sz) (l.flatMap e)=l.flatMap e:=Axl (by rw[Ant k,hn];exact Axo _)
def Oi{B:List Int}{n:Nat}(h:n=B.length):take (n*1) (Aj B)=B.flatMap CM:=by rw[h];exact Vc
def TR{α:Type}{P:Nat->α->Prop}{l:List α}{x:α}(h:∀ i (h:i<l.length),P i l[i])(C:P l.length x):∀ i (h:i<(l++[x]).length),P i (l++[x])[i]:=by
 intro i hi
 by_cases k:i<l.length
 ·rw[Ayj k];exact h i k
 ·have:i=l.length:=by simp at hi;omega
  subst this
  simpa using C
def Afs{p:Jb}(h:(Hx p==0)=true):p=none:=by
 rcases p with _|⟨x,e,k⟩
 ·rfl
 ·simp[Hx]at h;exact absurd h k
def yz{N:Nat}{l:List Int}{o:Bool}(hN:4096<=N)(I:l.length<=9223372036854775807){H:Nat}{res:List Int}{bs:List BusD}{ls:List LineD}{us:List UnitD}{ss:List StoreD}{ts:List TieD}(b:BaseG H res bs ls us ss ts):∀(n fuel k:Nat)(os:List OutD),n<fuel->k<=l.length->os.length+n<=3->OutsG ls.length us.length os->(os=[]\/TQ (uC true H res bs ls us ss ts os)=none) ->
  ∃ C,OutsG ls.length us.length C/\(C=[]\/TQ (uC true H res bs ls us ss ts C)=none)/\∀ K:LA->O R,Hi N K (Aj l) l.length o (H:Int) res.length bs.length ls.length us.length ss.length ts.length (Aj res) (bs.flatMap BusD.av) (ls.flatMap LineD.av) (us.flatMap UnitD.av) (ss.flatMap StoreD.av) (ts.flatMap TieD.av) fuel (n:Int) (k:Int) os.length (os.flatMap OutD.av)=K (uC false H res bs ls us ss ts C).av
|0,fuel+1,k,os,_,L,_,g,hc=>by
  refine⟨os,g,hc,fun K=>?_⟩
  rw[Hi];unfold Wu
  rw[show decide (((0:Nat):Int)>0)=false from rfl,Oi rfl,B0 IV _ rfl,B0 G5 _ rfl,B0 O8 _ rfl,B0 Oe _ rfl,B0 Xd _ rfl,B0 Of _ rfl]
  rfl
| n+1,fuel+1,k,os,hf,L,hn,g,hc=>by
  by_cases T:ls.length=0
  ·refine⟨os,g,hc,fun K=>?_⟩
   rw[Hi];unfold Wu
   rw[show decide ((ls.length:Int)>0)=false from decide_eq_false (by omega),show decide (((n+1:Nat):Int)>0)=true from decide_eq_true (by omega),Oi rfl,B0 IV _ rfl,B0 G5 _ rfl,B0 O8 _ rfl,B0 Oe _ rfl,B0 Xd _ rfl,B0 Of _ rfl]
   rfl
  ·have Y:=b.ul;have hll:=b.ll
   obtain⟨x,G,gx,D,hx⟩:=Acv (R:=R) (N:=N) (t:=false) (o:=o) (by omega) I (i:=os.length) (nl:=ls.length) (nu:=us.length) (by omega) (by omega) (by omega) k L
   have g':OutsG ls.length us.length (os++[x]):=⟨by simp;omega,TR g.g gx⟩
   have sm:=Aj6 (f:=true) hN b g'
   have wn:wrap .i64 (((n+1:Nat):Int) - 1)=(n:Int):=rt (by omega)
   have step:∀ K:LA->O R,Hi N K (Aj l) l.length o (H:Int) res.length bs.length ls.length us.length ss.length ts.length (Aj res) (bs.flatMap BusD.av) (ls.flatMap LineD.av) (us.flatMap UnitD.av) (ss.flatMap StoreD.av) (ts.flatMap TieD.av) (fuel+1) ((n+1:Nat):Int) (k:Int) os.length (os.flatMap OutD.av) =
     cond (Hx (TQ (uC true H res bs ls us ss ts (os++[x])))==0)
      (Hi N K (Aj l) l.length o (H:Int) res.length bs.length ls.length us.length ss.length ts.length (Aj res) (bs.flatMap BusD.av) (ls.flatMap LineD.av) (us.flatMap UnitD.av) (ss.flatMap StoreD.av) (ts.flatMap TieD.av) fuel (n:Int) (G:Int) (os++[x]).length ((os++[x]).flatMap OutD.av))
      (Hi N K (Aj l) l.length o (H:Int) res.length bs.length ls.length us.length ss.length ts.length (Aj res) (bs.flatMap BusD.av) (ls.flatMap LineD.av) (us.flatMap UnitD.av) (ss.flatMap StoreD.av) (ts.flatMap TieD.av) fuel (n:Int) (G:Int) os.length (os.flatMap OutD.av)):=fun K=>by
    rw[Hi];unfold Wu LM
    have c1:(ble (0+os.length) 140737488355328&&ble ((0+os.length)*72) 140737488355328)=true:=by rw[Ey,Ey];simp;omega
    have c2:(ble ((0+os.length)+1) 140737488355328&&ble (((0+os.length)+1)*72) 140737488355328)=true:=by rw[Ey,Ey];simp;omega
    have c3:take ((0+os.length)*4) (take (os.length*4) (os.flatMap OutD.av))++take 4 (setCells [.str ([]:Lu),.nsl,.bool false,.nsl] 0 (take 4 x.av))=(os++[x]).flatMap OutD.av:=by
     rw[Ax0,B0 Of _ rfl,B0 Of _ rfl]
     simp only[A0d,Aye,A3h,Ay5]
     rfl
    have c4:take (((0+os.length)+1)*4) ((os++[x]).flatMap OutD.av)=(os++[x]).flatMap OutD.av:=B0 Of _ (by simp)
    have c5:(0+os.length)+1=(os++[x]).length:=by simp
    rw[show decide ((ls.length:Int)>0)=true from decide_eq_true (by omega),show decide (((n+1:Nat):Int)>0)=true from decide_eq_true (by omega)]
    simp only[beq_self_eq_true,cond_true]
    rw[hx,show((beq 0 0)&&((beq (List.length x.av) 4)&&(beq 4 4)))=true from rfl,ct,c1,ct,show ble 4 (List.length x.av)=true from rfl,ct,show((beq (List.length (take 4 x.av)) 4)&&(ble 4 4))=true from rfl,ct,c2,ct,c3,c4,c5,Oi rfl,B0 IV _ rfl,B0 G5 _ rfl,B0 O8 _ rfl,B0 Oe _ rfl,B0 Xd _ rfl]
    refine Eq.trans (sI (R:=R) (N:=N) (c:=uC true H res bs ls us ss ts (os++[x])) (o:=true) sm hN) ?_
    rw[Arz,show((beq 3 3)&&((ble 3 3)&&(!false)))=true from rfl,ct,wn]
   cases hq:Hx (TQ (uC true H res bs ls us ss ts (os++[x])))==0 with
   |true =>
    obtain⟨C,a1,a2,a3⟩:=yz hN I b n fuel G (os++[x]) (by omega) D (by simp;omega) g' (.inr (Afs hq))
    exact⟨C,a1,a2,fun K=>by rw[step,hq,ct,a3]⟩
   |false =>
    obtain⟨C,a1,a2,a3⟩:=yz hN I b n fuel G os (by omega) D (by omega) g hc
    exact⟨C,a1,a2,fun K=>by rw[step,hq,cf,a3]⟩
end
end Gx.Cf
