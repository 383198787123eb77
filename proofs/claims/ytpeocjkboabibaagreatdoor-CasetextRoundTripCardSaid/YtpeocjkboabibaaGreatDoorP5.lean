/- A part of the proof; each theorem says what it holds. -/
import Derived.Lib.IndexLaws
import Derived.Test.YtpeocjkboabibaaGreatDoorRows
import Derived.ChangeSame
import Derived.Test.YtpeocjkboabibaaGreatDoorP4
set_option linter.unusedVariables false
set_option linter.defProp false
set_option linter.unusedSimpArgs false
open Nat (ble beq)
open List (take drop replicate)
open Go.IntKind (wrap)
namespace Gx.Ct
open Go Go.Proofs Gx.Cf
section
variable{R:Type}{N:Nat}
def rK{v:Nat}(h:v<4294967296):Bj v=if v=0 then []else [v]:=by
 by_cases d:v=0
 ·rw[if_pos d,d,He]
 ·rw[if_neg d,II (by omega),A59 h,A7h h,He]
def yu{x:RatD}{z:Int}(hx:x.can (z:Rat))(l:An z)(j:fit (4*(x.m+10)+1000) N){K:Int->Bool->O R}:MN N x.av false K=K z true:=by
 have f:=l
 unfold An at l
 have y:=j.1
 obtain⟨d,k,t⟩:=Aav (R:=R) (N:=N) (v:=1073741824) (by omega) (by omega)
 have md:d.m<=2:=by
  rw[k.m];show max (Bj (Rat.num ((1073741824:Int):Rat)).natAbs).length (Bj (Rat.den ((1073741824:Int):Rat))).length<=2
  rw[A6u,A7o,rK (by omega),DV];decide
 obtain⟨e,e1,u⟩:=Asq (R:=R) (N:=N) k (by unfold An;omega) (j.le (by omega))
 have me:e.m<=2:=by
  rw[e1.m];show max (Bj (Rat.num ((-1073741824:Int):Rat)).natAbs).length (Bj (Rat.den ((-1073741824:Int):Rat))).length<=2
  rw[A6u,A7o,rK (by omega),DV];decide
 obtain⟨n,n1,n2⟩:=l8 (R:=R) (N:=N) (x:=x) (o:=false) hx f (j.le (by omega))
 rw[nn];unfold gM
 rw[t,A37,ct,Akz,ct,Akz,ct,tV,tV,Acz hx f k (by unfold An;omega) (j.le (by omega))]
 rw[show decide (Aat z 1073741824>0)=false by unfold Aat;rw[decide_eq_false_iff_not];split<;>(try split)<;>omega,show((false:Bool)==false)=true from rfl,ct,u]
 rw[Acz hx f e1 (by unfold An;omega) (j.le (by omega))]
 rw[show decide (Aat z (-1073741824)<0)=false by unfold Aat;rw[decide_eq_false_iff_not];split<;>(try split)<;>omega]
 rw[show cond false true false=false from rfl,cf]
 unfold PR XR
 rw[Akz,ct,tV,n2]
 rw[show setCells x.av 0 n.av=n.av from rfl]
 rw[ct,ct,show(beq (List.length n.av) 3&&(true&&!false))=true from rfl,ct]
 rw[Aoi,n1.2.2,A7o,DV]
 rw[show(((((([1]:List Nat).length:Nat):Int) != 1)==false):Bool)=true from rfl,ct]
 rw[Aoi,n1.2.2,A7o,DV]
 show PQ N K false n.av=_
 rw[PQ];unfold XQ
 rw[Az0,n1.2.1,A6u,rK (by omega)]
 have q:∀ F:Bool->O R,QY n.av F=F (decide (z<0)):=fun F=>by rw[Azz,n1.1,A6u]
 obtain⟨m,rfl⟩:∃ m,N=m+2:=⟨N - 2,by omega⟩
 by_cases s:z.natAbs=0
 ·have:z=0:=by omega
  subst this
  rw[if_pos s]
  show Tg (m+2) K (A2 []) 0 false n.av (m+2) 0 0 0=_
  rw[Tg];unfold IV
  rw[show decide ((0:Int)<0)=false from rfl,cf,q];rfl
 ·rw[if_neg s]
  show Tg (m+2) K (A2 [z.natAbs]) 1 false n.av (m+1) (wrap .i64 (z.natAbs:Int)) 1 (wrap .i64 (0+1))=_
  rw[Gx.i64 (by omega),Tg];unfold IV
  rw[show decide (wrap .i64 (0+1)<1)=false from rfl,cf,q]
  by_cases hn:z<0
  ·rw[decide_eq_true hn]
   show K (wrap .i64 (0 - (z.natAbs:Int))) true=_
   rw[Gx.i64 (by omega)];congr 1;omega
  ·rw[decide_eq_false hn]
   show K (z.natAbs:Int) true=_
   congr 1;omega
def rL{z:Int}(d:An z):(tx z).length<=30/\Ags (tx z)<=4096:=by
 have h:=NY z (by unfold Yb;unfold An at d;omega)
 exact⟨h,A6k (A6k List.countP_le_length h) (by omega)⟩
def Agv{z:Int}(d:An z)(f:fit 1500 N){K:Int->Bool->Int->O R}:PS N (tx z) K=K z true 0:=by
 have j:=rL d
 rw[sY];unfold x_
 have e:NZ (tx z)=z:=by rw[Zz];exact fQ z
 rw[Aa1 (by rw[Zz];exact gi z) (f.le (by omega)),if_neg (by omega),e]
 show MN N (RatD.av ⟨decide (z<0),.of (Bj z.natAbs) false false,.of [1] false false⟩) false _=_
 have c:RatD.can ⟨decide (z<0),.of (Bj z.natAbs) false false,.of [1] false false⟩ (z:Rat):=⟨by rw[A6u],by rw[A6u];rfl,by rw[A7o,DV];rfl⟩
 exact yu c d (f.le (by
  rw[c.m]
  have:=Avm (v:=z) (by unfold An at d;omega)
  omega))
def Ap9{s:RB}{z c d:Int}{r:List Ap}(e:An z)(l:c<=z)(m:z<=d)(f:fit 1500 N)(h:At s.nw s.cw s.nx (tx z::r))(j:s.er=0){K:Int->Int->Int->O R}{Y:O R}(k:∀ x,At s.nw s.cw x r->K z x 0=Y):Qm N c d s K=Y:=by
 rw[HI];unfold BO
 refine Gu h j fun x hx=>?_
 show PS N (tx z) _=_
 rw[Agv e f]
 show cond ((cond false true (decide (z<c)))==false) _ _=_
 rw[show decide (z<c)=false from decide_eq_false (by omega)]
 show cond (cond false true (decide (z>d))) _ _=_
 rw[show decide (z>d)=false from decide_eq_false (by omega)]
 exact k x hx
def Axu{s:RB}{z:Int}{r:List Ap}(d:An z)(e:fit 1500 N)(h:At s.nw s.cw s.nx (tx z::r))(f:s.er=0){K:Int->Int->Int->O R}{Y:O R}(k:∀ x,At s.nw s.cw x r->K z x 0=Y):DI N s K=Y:=by
 rw[PY];unfold MV
 exact Ap9 d d.1 d.2 e h f k
def Az3{d n:Nat}(h:d<n):Ac (d:Int) n=true:=by unfold Ac;simp;omega
def gD{pre post:Lu}{c:UInt8}:List.getD (pre++c::post) pre.length 0=c:=by simp
def Awr(c:UInt8):Bool:=D4 c||decide (c.toNat=45)
def Ass{n:Nat}{b pre post:Lu}{c:UInt8}{K:Int->O R}(j:b=pre++c::post)(l:b.length<=1000000000)(f:Awr c=true):
  Ij N K b (n+1) (pre.length:Int)=Ij N K b n ((pre.length+1:Nat):Int):=by
 have d:pre.length<b.length:=by rw[j];simp
 have k:List.getD b (pre.length:Int).toNat 0=c:=by rw[A45,j];exact gD
 rw[Ij];unfold DG
 rw[k,Er d,Az3 d,Gx.wS (by omega)]
 unfold Awr D4 at f
 by_cases e:c.toNat=45
 ·rw[show decide ((c.toNat:Int)>=48)=false from decide_eq_false (by omega),e];rfl
 ·rw[decide_eq_false e,A65]at f
  simp only[A47,decide_eq_true_eq]at f
  rw[show decide ((c.toNat:Int)>=48)=true from decide_eq_true (by omega),show decide ((c.toNat:Int)<=57)=true from decide_eq_true (by omega)];rfl
def Ala{b:Lu}{K:Int->O R}(f:b.length<=1000000000):∀(w pre:Lu)(n:Nat),b=pre++w->w.all Awr=true ->
  Ij N K b (n+w.length) (pre.length:Int)=Ij N K b n (b.length:Int)
|[],pre,n,d,_=>by rw[d,A5h];rfl
|c::w,pre,n,d,e=>by
  simp only[A5s,A47]at e
  have j:=Ala (K:=K) f w (pre++[c]) n (by rw[d];simp) e.2
  rw[A41,A5w]at j
  rw[A42,<-A6l,Ass (post:=w) d f e.1,j]
def Aoo{t:Lu}{K:Int->O R}(k:t.all Awr=true)(d:t≠[])(s:t.length<=1000000000)(hN:t.length+5<=N):TS N t K=K (t.length:Int):=by
 rw[je];unfold XS
 have l:=Ala (R:=R) (N:=N) (K:=K) s t [] (N - t.length) rfl k
 rw[show N - t.length+t.length=N by omega,A43]at l
 refine l.trans ?_
 obtain⟨n,hn⟩:∃ n,N - t.length=n+1:=⟨N - t.length - 1,by omega⟩
 rw[hn,Ij];unfold DG
 rw[Fk (A49 _)]
 show Ut N K t N (t.length:Int)=_
 obtain⟨m,u⟩:∃ m,N=m+1:=⟨N - 1,by omega⟩
 have un:∀ j,Ut N K t (j+1) (t.length:Int)=K (t.length:Int):=fun j=>by
  rw[Ut];unfold RS
  obtain⟨r,z,hr⟩:∃ r z,t=r++[z]:=⟨t.dropLast,t.getLast d,(A8p d).symm⟩
  have f:Awr z=true:=A5n.1 k z (by rw[hr];simp)
  have q:t.length=r.length+1:=by rw[hr];simp
  rw[show decide ((t.length:Int)>0)=true from decide_eq_true (by omega),show wrap .i64 ((t.length:Int) - 1)=(r.length:Int) by rw[Gx.i64 (by omega)];omega,Az3 (show r.length<t.length by omega),A45,hr,gD]
  rw[show((z.toNat:Int)==47)=false by
   rw[beq_eq_false_iff_ne]
   unfold Awr D4 at f
   intro e
   have v:z.toNat=47:=by omega
   rw[v] at f;revert f;decide]
  rfl
 have:=un m
 rw[<-u]at this;exact this
def Ay2{t:Lu}(h:YP t=true):t.all Awr=true:=by
 unfold YP at h
 have q:∀ r:Lu,r.all D4=true->r.all Awr=true:=fun r hr=>A5n.2 fun x hx=>by
  unfold Awr;rw[A5n.1 hr x hx];rfl
 split at h
 ·rw[A5s,q _ h];rfl
 ·exact q _ h
def Ast{z:Int}(e:An z)(d:fit 1500 N):∃ x:RatD,x.can (z:Rat)/\∀ K:LA->Int->O R,PU N (tx z) K=K x.av 0:=by
 have f:=rL e
 have hn:rI (tx z)=true:=by rw[Zz];exact gi z
 have hi:NZ (tx z)=z:=by rw[Zz];exact fQ z
 have j:=d.1
 have k:(Bj z.natAbs).length<=2:=by unfold An at e;exact ge (by omega)
 obtain⟨x,x1,x2⟩:=Asr (R:=R) (N:=N) e (d.le (by omega))
 refine⟨x,x1,fun K=>?_⟩
 rw[ZY];unfold XT
 rw[Aso hn (by omega),show(!true)=false by rfl,cf,ow (Ak7 (gh hn)) (by omega) (by omega),decide_eq_false (by omega),cf,Gx.FL (gh hn) (d.le (by omega)),Gx.FL (s:=[49]) (by decide) (d.le (by decide)),hi,show NZ [49]=1 by decide,x2];rfl
def A3s:LA:=[.int .i64 0,.int .i64 0,.int .i64 0,.int .i64 0]
def Az4{z:Int}(d:An z)(e:fit 2000 N):∃ x:RatD,x.can (z:Rat)/\∀ K:LA->LA->Int->O R,TT N (tx z) K=K x.av A3s 0:=by
 have f:=rL d
 have j:=e.1
 have hn:rI (tx z)=true:=by rw[Zz];exact gi z
 have hi:NZ (tx z)=z:=by rw[Zz];exact fQ z
 obtain⟨x,x1,x2⟩:=Ast (R:=R) (N:=N) d (e.le (by omega))
 refine⟨x,x1,fun K=>?_⟩
 rw[ny];unfold gP
 rw[Aoo (Ay2 (gh hn)) (Ak5 z).1 (by omega) (by omega)]
 rw[show((decide ((0:Int)<=(0:Int)))&&((decide (0<=(((tx z).length:Nat):Int)))&&((decide ((((tx z).length:Nat):Int)<=(((tx z).length:Nat):Int)))&&(decide ((((tx z).length:Nat):Int)<=(((tx z).length:Nat):Int))))))=true by simp,ct,A45,A6c,x2]
 rw[A37,ct,show((0:Int) != 0)=false from rfl,cf]
 rw[show((decide (0<=(((tx z).length:Nat):Int)))&&((decide ((((tx z).length:Nat):Int)<=(((tx z).length:Nat):Int)))&&((decide ((((tx z).length:Nat):Int)<=(((tx z).length:Nat):Int)))&&(decide ((((tx z).length:Nat):Int)<=(((tx z).length:Nat):Int))))))=true by simp,ct]
 rw[List.drop_length,Nat.sub_self,show take 0 ([]:Lu)=[]from rfl,show(([]:Lu)==[])=true from rfl,ct]
 rfl
def Axv(z:Int):∃ r c,tx z=r++[c]/\D4 c=true:=by
 have f:∀ n:Nat,∃ r c,dec n=r++[c]/\D4 c=true:=fun n =>
  ⟨_,_,(A8p (lX n)).symm,A5n.1 (US n) _ (List.getLast_mem _)⟩
 obtain⟨r,c,e,h⟩:=f z.natAbs
 rw[Zz];unfold yq Ak3
 by_cases d:z<0
 ·rw[if_pos d,e];exact⟨45::r,c,rfl,h⟩
 ·rw[if_neg d,e];exact⟨r,c,rfl,h⟩
def Az5(z:Int):(tx z).all Awr=true:=Ay2 (gh (by rw[Zz];exact gi z))
def A1j(z:Int):(47:UInt8)∉tx z:=fun h=>by
 have:=A5n.1 (Az5 z) _ h
 revert this;decide
def Avz{z:Int}(h:0<=z):∃ c r,tx z=c::r/\D4 c=true:=by
 rw[Zz];unfold yq Ak3
 rw[if_neg (by omega)]
 cases e:dec z.natAbs with
|nil=>exact absurd e (lX _)
|cons c r=>exact⟨c,r,rfl,A5n.1 (US z.natAbs) c (by rw[e];simp)⟩
def gj{s:RB}{z:Int}{b:LA}{o:Bool}{r:List Ap}(d:An z)(f:fit 2000 N)(h:At s.nw s.cw s.nx (tx z::r))(n:s.er=0){K:Int->Int->Int->O R}{Y:O R}(k:∀ x,At s.nw s.cw x r->K z x 0=Y):Dw N b o s K=Y:=by
 rw[E'];unfold R2
 refine Gu h n fun x hx=>?_
 obtain⟨y,y1,y2⟩:=Az4 (R:=R) (N:=N) d f
 have q:=rL d
 obtain⟨p,c,e,j⟩:=Axv z
 have l:(tx z).length=p.length+1:=by rw[e];simp
 show TT N (tx z) _=_
 rw[y2]
 show cond (Ac (wrap .i64 ((((tx z).length:Nat):Int) - 1)) (tx z).length) _ _=_
 rw[show wrap .i64 (((tx z).length:Int) - 1)=(p.length:Int) by rw[Gx.i64 (by omega)];omega,Az3 (show p.length<(tx z).length by omega),ct,A45]
 rw[show List.getD (tx z) p.length 0=c by rw[e];exact gD]
 unfold D4 at j
 simp only[A47,decide_eq_true_eq]at j
 rw[show decide ((c.toNat:Int)<48)=false from decide_eq_false (by omega),show decide ((c.toNat:Int)>57)=false from decide_eq_false (by omega)]
 show Jg N K s x 0 y.av=_
 unfold Jg
 rw[Akz,ct,tV,yu y1 d (f.le (by
  rw[y1.m]
  have:=Avm (v:=z) (by unfold An at d;omega)
  omega))]
 exact k x hx
def Ks(f:FracD):Prop:=An f.num/\An f.den/\1<=f.den
def vD{s:RB}{f:FracD}{r:List Ap}(n:Ks f)(d:fit 2000 N)(h:At s.nw s.cw s.nx (H6 f::r))(q:s.er=0){K:LA->Int->Int->O R}{Y:O R}(k:∀ x,At s.nw s.cw x r->K [.int .i64 f.num,.int .i64 f.den] x 0=Y):Ci N s K=Y:=by
 obtain⟨j,l,t⟩:=n
 rw[AG];unfold Pn
 refine Gu h q fun x hx=>?_
 have l1:=rL j
 have l2:=rL l
 show strings_Cut N (H6 f) [47] _=_
 rw[Axt (by unfold H6;rw[A41,A42];omega)]
 unfold H6
 rw[Avy (A1j f.num)]
 show PS N (tx f.num) _=_
 rw[Agv j (d.le (by omega))]
 show Ir N K f.num true s x 0 (tx f.den)=_
 unfold Ir Rg
 rw[Agv l (d.le (by omega))]
 obtain⟨c,w,e,m⟩:=Avz (show 0<=f.den by omega)
 unfold D4 at m
 simp only[A47,decide_eq_true_eq]at m
 rw[e]
 rw[show Ac 0 (c::w).length=true by unfold Ac;simp,show(((UInt8.toNat (List.getD (c::w) 0 0):Nat):Int)==45)=false by
  rw[beq_eq_false_iff_ne];show ¬ (c.toNat:Int)=45;omega]
 show Mf N K f.num true f.den true s x 0=_
 unfold Mf
 rw[show decide (f.den<1)=false from decide_eq_false (by omega)]
 exact k x hx
def yv{l:List Ap}{d f:Bool}(q:l.length<=1000000)(hn:l.Nodup){i:Nat}(hi:i<l.length){K:Int->O R}:∀(m j fuel:Nat),j+m=i->l.length<fuel+j ->
  Bb N K (Au l) l.length d f l[i] fuel (l.length:Int) (j:Int)=K (i:Int)
|0,j,0,k,n=>by omega
|m+1,j,0,k,n=>by omega
|0,j,fuel+1,k,_=>by
  have:j=i:=by omega
  subst this
  rw[Bb];unfold Bv
  rw[Er hi,ct,Aa hi,ct,A45,A5m,Gn hi,beq_self_eq_true,ct]
| m+1,j,fuel+1,k,n=>by
  have h:j<l.length:=by omega
  have e:¬ l[i]=l[j]:=fun e=>by
   have:=(List.getElem_inj hn).1 e
   omega
  rw[Bb];unfold Bv
  rw[Er h,ct,Aa h,ct,A45,A5m,Gn h,beq_false_of_ne e,cf,Q8 (by omega)]
  exact yv q hn hi m (j+1) fuel (by omega) (by omega)
def UU{l:List Ap}{n:Nat}{d f:Bool}(hN:1000000000<N)(hn:n=l.length)(e:l.length<=1000000)(j:l.Nodup){i:Nat}(hi:i<l.length){K:Int->O R}:Bh N (Au l) n d f l[i] K=K (i:Int):=by
 subst hn
 rw[Hb];unfold Dr
 exact yv e j hi i 0 N (by omega) (by omega)
def Av0{s:RB}{w:Ap}{r ns:List Ap}(hN:1000000000<N)(d:A9 w=true)(f:w∉ns)(n:ns.length<32)(j:s.zB=ns.length)(l:s.yB=Au ns)(h:At s.nw s.cw s.nx (w::r))(m:s.er=0){K:Int->Int->O R}{L:Lu->Int->Int->Nat->LA->O R}{Y:O R}(k:∀ x,At s.nw s.cw x r->L w x 0 (ns++[w]).length (Au (ns++[w]))=Y):Zk N s K L=Y:=by
 rw[MS];unfold GI
 refine Gu h m fun x hx=>?_
 show Me N w _=_
 rw[P7 (by omega),d]
 show Am N _ _ _ _ _ _=_
 rw[j,l,Ch,Ha hN rfl (by omega),show ns.contains w=false by simpa using f,cf,Th]
 show cond (decide ((ns.length:Int)>=32)) _ _=_
 rw[show decide ((ns.length:Int)>=32)=false from decide_eq_false (by omega),cf,Rj (by omega),ct,Ep]
 have e:ns.length+1=(ns++[w]).length:=by simp
 rw[e]
 exact k x hx
def Av1{s:RB}{w:Ap}{r ns:List Ap}(hN:1000000000<N)(d:A9 w=true)(f:w∉ns)(n:ns.length<64)(j:s.zC=ns.length)(l:s.yC=Au ns)(h:At s.nw s.cw s.nx (w::r))(m:s.er=0){K:Int->Int->O R}{L:Lu->Int->Int->Nat->LA->O R}{Y:O R}(k:∀ x,At s.nw s.cw x r->L w x 0 (ns++[w]).length (Au (ns++[w]))=Y):R4 N s K L=Y:=by
 rw[AF];unfold Xi
 refine Gu h m fun x hx=>?_
 show Me N w _=_
 rw[P7 (by omega),d]
 show Am N _ _ _ _ _ _=_
 rw[j,l,Ch,Ha hN rfl (by omega),show ns.contains w=false by simpa using f,cf,Th]
 show cond (decide ((ns.length:Int)>=64)) _ _=_
 rw[show decide ((ns.length:Int)>=64)=false from decide_eq_false (by omega),cf,Rj (by omega),ct,Ep]
 have e:ns.length+1=(ns++[w]).length:=by simp
 rw[e]
 exact k x hx
def Av2{s:RB}{w:Ap}{r ns:List Ap}(hN:1000000000<N)(d:A9 w=true)(f:w∉ns)(n:ns.length<16)(j:s.zD=ns.length)(l:s.yD=Au ns)(h:At s.nw s.cw s.nx (w::r))(m:s.er=0){K:Int->Int->O R}{L:Lu->Int->Int->Nat->LA->O R}{Y:O R}(k:∀ x,At s.nw s.cw x r->L w x 0 (ns++[w]).length (Au (ns++[w]))=Y):R7 N s K L=Y:=by
 rw[AH];unfold Xk
 refine Gu h m fun x hx=>?_
 show Me N w _=_
 rw[P7 (by omega),d]
 show Am N _ _ _ _ _ _=_
 rw[j,l,Ch,Ha hN rfl (by omega),show ns.contains w=false by simpa using f,cf,Th]
 show cond (decide ((ns.length:Int)>=16)) _ _=_
 rw[show decide ((ns.length:Int)>=16)=false from decide_eq_false (by omega),cf,Rj (by omega),ct,Ep]
 have e:ns.length+1=(ns++[w]).length:=by simp
 rw[e]
 exact k x hx
def Av3{s:RB}{w:Ap}{r ns:List Ap}(hN:1000000000<N)(d:A9 w=true)(f:w∉ns)(n:ns.length<8)(j:s.zE=ns.length)(l:s.yE=Au ns)(h:At s.nw s.cw s.nx (w::r))(m:s.er=0){K:Int->Int->O R}{L:Lu->Int->Int->Nat->LA->O R}{Y:O R}(k:∀ x,At s.nw s.cw x r->L w x 0 (ns++[w]).length (Au (ns++[w]))=Y):R9 N s K L=Y:=by
 rw[AI];unfold Xl
 refine Gu h m fun x hx=>?_
 show Me N w _=_
 rw[P7 (by omega),d]
 show Am N _ _ _ _ _ _=_
 rw[j,l,Ch,Ha hN rfl (by omega),show ns.contains w=false by simpa using f,cf,Th]
 show cond (decide ((ns.length:Int)>=8)) _ _=_
 rw[show decide ((ns.length:Int)>=8)=false from decide_eq_false (by omega),cf,Rj (by omega),ct,Ep]
 have e:ns.length+1=(ns++[w]).length:=by simp
 rw[e]
 exact k x hx
def Av4{s:RB}{w:Ap}{r ns:List Ap}(hN:1000000000<N)(d:A9 w=true)(f:w∉ns)(n:ns.length<8)(j:s.zF=ns.length)(l:s.yF=Au ns)(h:At s.nw s.cw s.nx (w::r))(m:s.er=0){K:Int->Int->O R}{L:Lu->Int->Int->Nat->LA->O R}{Y:O R}(k:∀ x,At s.nw s.cw x r->L w x 0 (ns++[w]).length (Au (ns++[w]))=Y):Sa N s K L=Y:=by
 rw[AJ];unfold Xm
 refine Gu h m fun x hx=>?_
 show Me N w _=_
 rw[P7 (by omega),d]
 show Am N _ _ _ _ _ _=_
 rw[j,l,Ch,Ha hN rfl (by omega),show ns.contains w=false by simpa using f,cf,Th]
 show cond (decide ((ns.length:Int)>=8)) _ _=_
 rw[show decide ((ns.length:Int)>=8)=false from decide_eq_false (by omega),cf,Rj (by omega),ct,Ep]
 have e:ns.length+1=(ns++[w]).length:=by simp
 rw[e]
 exact k x hx
def Av5{s:RB}{w:Ap}{r ns:List Ap}(hN:1000000000<N)(d:A9 w=true)(f:w∉ns)(n:ns.length<64)(j:s.zG=ns.length)(l:s.yG=Au ns)(h:At s.nw s.cw s.nx (w::r))(m:s.er=0){L:Lu->Int->Int->Nat->LA->O R}{Y:O R}(k:∀ x,At s.nw s.cw x r->L w x 0 (ns++[w]).length (Au (ns++[w]))=Y):Sb N s L=Y:=by
 rw[AL];unfold Xn
 refine Gu h m fun x hx=>?_
 show Me N w _=_
 rw[P7 (by omega),d]
 show Am N _ _ _ _ _ _=_
 rw[j,l,Ch,Ha hN rfl (by omega),show ns.contains w=false by simpa using f,cf,Th]
 show cond (decide ((ns.length:Int)>=64)) _ _=_
 rw[show decide ((ns.length:Int)>=64)=false from decide_eq_false (by omega),cf,Rj (by omega),ct,Ep]
 have e:ns.length+1=(ns++[w]).length:=by simp
 rw[e]
 exact k x hx
def UV{s:RB}{i:Int}{r ns:List Ap}(hN:1000000000<N)(e:ns.Nodup)(n:0<=i)(hi:i<(ns.length:Int))(f:ns.length<=1000000)(j:s.zB=ns.length)(l:s.yB=Au ns)(h:At s.nw s.cw s.nx (Be ns i::r))(m:s.er=0){K:Int->Int->Int->O R}{Y:O R}(k:∀ x,At s.nw s.cw x r->K i x 0=Y):Cu N s K=Y:=by
 rw[HL];unfold BU
 refine Gu h m fun x hx=>?_
 show Bh N _ _ _ _ _ _=_
 have d:i.toNat<ns.length:=by omega
 rw[j,l,Ch,show Be ns i=ns[i.toNat] by unfold Be;rw[A5f,A46 d];rfl,UU hN rfl f e d,show(i.toNat:Int)=i by omega,show decide (i<0)=false from decide_eq_false (by omega),cf]
 exact k x hx
def Asu{s:RB}{i:Int}{r ns:List Ap}(hN:1000000000<N)(e:ns.Nodup)(n:0<=i)(hi:i<(ns.length:Int))(f:ns.length<=1000000)(j:s.zC=ns.length)(l:s.yC=Au ns)(h:At s.nw s.cw s.nx (Be ns i::r))(m:s.er=0){K:Int->Int->Int->O R}{Y:O R}(k:∀ x,At s.nw s.cw x r->K i x 0=Y):Pr N s K=Y:=by
 rw[Zn];unfold Vn
 refine Gu h m fun x hx=>?_
 show Bh N _ _ _ _ _ _=_
 have d:i.toNat<ns.length:=by omega
 rw[j,l,Ch,show Be ns i=ns[i.toNat] by unfold Be;rw[A5f,A46 d];rfl,UU hN rfl f e d,show(i.toNat:Int)=i by omega,show decide (i<0)=false from decide_eq_false (by omega),cf]
 exact k x hx
def Asv{s:RB}{i:Int}{r ns:List Ap}(hN:1000000000<N)(e:ns.Nodup)(n:0<=i)(hi:i<(ns.length:Int))(f:ns.length<=1000000)(j:s.zD=ns.length)(l:s.yD=Au ns)(h:At s.nw s.cw s.nx (Be ns i::r))(m:s.er=0){K:Int->Int->Int->O R}{Y:O R}(k:∀ x,At s.nw s.cw x r->K i x 0=Y):Ps N s K=Y:=by
 rw[Zo];unfold Vo
 refine Gu h m fun x hx=>?_
 show Bh N _ _ _ _ _ _=_
 have d:i.toNat<ns.length:=by omega
 rw[j,l,Ch,show Be ns i=ns[i.toNat] by unfold Be;rw[A5f,A46 d];rfl,UU hN rfl f e d,show(i.toNat:Int)=i by omega,show decide (i<0)=false from decide_eq_false (by omega),cf]
 exact k x hx
def Ji{s:RB}{z:Int}{r:List Ap}(d:An z)(e:fit 2000 N)(h:At s.nw s.cw s.nx (tx z::r))(f:s.er=0){K:Int->Int->Int->O R}{Y:O R}(k:∀ x,At s.nw s.cw x r->K z x 0=Y):Bg N s K=Y:=by
 rw[MQ];unfold GH
 exact gj d e h f k
def pC{s:RB}{z:Int}{r:List Ap}(d:An z)(e:fit 2000 N)(h:At s.nw s.cw s.nx (tx z::r))(f:s.er=0){K:Int->Int->Int->O R}{Y:O R}(k:∀ x,At s.nw s.cw x r->K z x 0=Y):Iq N s K=Y:=by
 rw[MT];unfold GJ
 exact gj d e h f k
def Axw{s:RB}{z:Int}{r:List Ap}(d:An z)(e:fit 2000 N)(h:At s.nw s.cw s.nx (tx z::r))(f:s.er=0){K:Int->Int->Int->O R}{Y:O R}(k:∀ x,At s.nw s.cw x r->K z x 0=Y):DJ N s K=Y:=by
 rw[P_];unfold MY
 exact gj d e h f k
def pD{s:RB}{z:Int}{r:List Ap}(d:An z)(e:fit 2000 N)(h:At s.nw s.cw s.nx (tx z::r))(f:s.er=0){K:Int->Int->Int->O R}{Y:O R}(k:∀ x,At s.nw s.cw x r->K z x 0=Y):Jw N s K=Y:=by
 rw[P'];unfold MZ
 exact gj d e h f k
def Alb{s:RB}{z:Int}{r:List Ap}(d:An z)(e:fit 2000 N)(h:At s.nw s.cw s.nx (tx z::r))(f:s.er=0){K:Int->Int->Int->O R}{Y:O R}(k:∀ x,At s.nw s.cw x r->K z x 0=Y):Tj N s K=Y:=by
 rw[M_];unfold GL
 exact gj d e h f k
def rM{s:RB}{z:Int}{r:List Ap}(d:An z)(e:fit 2000 N)(h:At s.nw s.cw s.nx (tx z::r))(f:s.er=0){K:Int->Int->Int->O R}{Y:O R}(k:∀ x,At s.nw s.cw x r->K z x 0=Y):Fs N s K=Y:=by
 rw[HP];unfold BW
 exact gj d e h f k
def Aqa{n:Nat}(h:n<=2000000000):((ble n 140737488355328)&&(ble (n*8) 140737488355328))=true:=by simp;omega
def UW(l:List Int):take (l.length*1) (A4 l)=A4 l:=by rw[A5m,A44 (by rw[Lj];exact A49 _)]
def gk(l:List Int)(z:Int):A4 l++[.int .i64 z]=A4 (l++[z]):=by rw[<-cN];rfl
def Mr{α:Type}(l:List α)(z:α):l.length+1=(l++[z]).length:=by simp
def Aop{nw:Nat}{cw:LA}{nx:Int}{r:List Ap}(h:At nw cw nx r):r.length<=2000000:=by
 obtain⟨p,e1,d,e3,e4⟩:=h
 rw[A41]at e4;omega
def FV(l:List Int):(AV.imm (take (l.length*1) (A4 l)) l.length 1 false false)=Sl.av 1 D5 (.of l false false):=by rw[UW];show _=AV.imm (l.flatMap D5) l.length 1 false false;rw[Bn]
def yw{s:RB}(f:fit 2000 N){r:List Ap}{K:Nat->Int->Int->LA->O R}{Y:O R}:∀(l pre:List Int)(fuel:Nat)(x:Int),(∀ z∈l,An z)->l.length<fuel->pre.length+l.length<=1000000->((pre.length+l.length:Nat):Int)=s.th->At s.nw s.cw x (l.map tx++r)->(∀ y,At s.nw s.cw y r->K (pre++l).length y 0 (A4 (pre++l))=Y)->Dz N K s fuel pre.length (pre.length:Int) x 0 (A4 pre)=Y
|[],pre,fuel+1,x,d,j,m,e,h,k=>by
  rw[Dz];unfold Md
  rw[<-e]
  rw[A43,A7k,Fk (A49 _),cf]
  have:=k x h
  rw[A5h]at this
  exact this
|z::l,pre,fuel+1,x,d,j,m,e,h,k=>by
  have hL:=Aop h
  rw[A41,A48,A42]at hL
  rw[A42]at j e m
  rw[Dz];unfold Md
  rw[show decide ((pre.length:Int)<s.th)=true from decide_eq_true (by omega),ct]
  refine Ji (d z (A6v ..)) f h rfl fun y n=>?_
  show cond _ (Dz N K s fuel _ _ y 0 _) none=_
  rw[Aqa (by omega),ct,Q8 (by omega),UW,gk,Mr pre z]
  have q:(pre++[z]).length=pre.length+1:=by simp
  refine yw f l (pre++[z]) fuel y (fun w t=>d w (A5x _ t)) (by omega) (by omega) (by omega) n fun u v=>?_
  have:=k u v
  rw[A88]at this
  exact this
def gn{s:RB}(d:fit 2000 N)(hN:1000000000<N){l:List Int}{r:List Ap}(e:∀ z∈l,An z)(m:l.length<=1000)(f:(l.length:Int)=s.th)(h:At s.nw s.cw s.nx (l.map tx++r))(j:s.er=0){K:Nat->Int->Int->LA->O R}{Y:O R}(k:∀ x,At s.nw s.cw x r->K l.length x 0 (A4 l)=Y):De N s K=Y:=by
 rw[FA];unfold R3
 rw[j]
 exact yw d l [] N s.nx e (by omega) (by rw[A43];omega) (by rw[A43,A5j];exact f) h k
def jo{s:RB}(f:fit 2000 N){r:List Ap}{K:Nat->Int->Int->LA->O R}{Y:O R}:∀(l pre:List Int)(fuel:Nat)(x:Int),(∀ z∈l,An z)->l.length<fuel->pre.length+l.length<=1000000->((pre.length+l.length:Nat):Int)=s.th->At s.nw s.cw x (l.map tx++r)->(∀ y,At s.nw s.cw y r->K (pre++l).length y 0 (A4 (pre++l))=Y)->Cx N K s fuel pre.length (pre.length:Int) x 0 (A4 pre)=Y
|[],pre,fuel+1,x,d,j,m,e,h,k=>by
  rw[Cx];unfold I0
  rw[<-e]
  rw[A43,A7k,Fk (A49 _),cf]
  have:=k x h
  rw[A5h]at this
  exact this
|z::l,pre,fuel+1,x,d,j,m,e,h,k=>by
  have hL:=Aop h
  rw[A41,A48,A42]at hL
  rw[A42]at j e m
  rw[Cx];unfold I0
  rw[show decide ((pre.length:Int)<s.th)=true from decide_eq_true (by omega),ct]
  refine pC (d z (A6v ..)) f h rfl fun y n=>?_
  show cond _ (Cx N K s fuel _ _ y 0 _) none=_
  rw[Aqa (by omega),ct,Q8 (by omega),UW,gk,Mr pre z]
  have q:(pre++[z]).length=pre.length+1:=by simp
  refine jo f l (pre++[z]) fuel y (fun w t=>d w (A5x _ t)) (by omega) (by omega) (by omega) n fun u v=>?_
  have:=k u v
  rw[A88]at this
  exact this
def Agw{s:RB}(d:fit 2000 N)(hN:1000000000<N){l:List Int}{r:List Ap}(e:∀ z∈l,An z)(m:l.length<=1000)(f:(l.length:Int)=s.th)(h:At s.nw s.cw s.nx (l.map tx++r))(j:s.er=0){K:Nat->Int->Int->LA->O R}{Y:O R}(k:∀ x,At s.nw s.cw x r->K l.length x 0 (A4 l)=Y):G2 N s K=Y:=by
 rw[X0];unfold Mg
 rw[j]
 exact jo d l [] N s.nx e (by omega) (by rw[A43];omega) (by rw[A43,A5j];exact f) h k
def Alc{s:RB}{a:Ap}(e:fit 2000 N){r:List Ap}{K:Nat->Int->Int->LA->O R}{Y:O R}(f:∀ z:Int,tx z≠a)(hr:∀ w∈r.head?,w=a):∀(l pre:List Int)(fuel:Nat)(x:Int),(∀ z∈l,An z)->l.length<fuel->pre.length+l.length<=2000000->At s.nw s.cw x (l.map tx++r)->(∀ y,At s.nw s.cw y r->K (pre++l).length y 0 (A4 (pre++l))=Y)->Gs N K a s fuel pre.length x 0 (A4 pre)=Y
| [],pre,fuel+1,x,d,j,m,h,k=>by
  rw[Gs];unfold Po
  have fin:K pre.length x 0 (A4 pre)=Y:=by
   have:=k x h
   rw[A5h]at this
   exact this
  cases r with
  |nil=>exact sc (s:={s with nx:=x,er:=0}) h rfl fin
  |cons w r =>
   refine B_ (s:={s with nx:=x,er:=0}) (a:=a) h rfl ?_
   rw[hr w rfl,beq_self_eq_true]
   exact fin
|z::l,pre,fuel+1,x,d,j,m,h,k=>by
  rw[A42]at j m
  rw[Gs];unfold Po
  refine B_ (s:={s with nx:=x,er:=0}) (a:=a) h rfl ?_
  rw[beq_false_of_ne (f z)]
  refine Axu (s:={s with nx:=x,er:=0}) (d z (A6v ..)) (e.le (by omega)) h rfl fun y n=>?_
  rw[Aqa (by omega),ct,UW,gk,Mr pre z]
  have q:(pre++[z]).length=pre.length+1:=by simp
  refine Alc e f hr l (pre++[z]) fuel y (fun w t=>d w (A5x _ t)) (by omega) (by omega) n fun u v=>?_
  have:=k u v
  rw[A88]at this
  exact this
def Aqb{s:RB}{a:Ap}(d:fit 2000 N)(hN:1000000000<N)(e:∀ z:Int,tx z≠a){l:List Int}{r:List Ap}(hr:∀ w∈r.head?,w=a)(f:∀ z∈l,An z)(h:At s.nw s.cw s.nx (l.map tx++r))(j:s.er=0){K:Nat->Int->Int->LA->O R}{Y:O R}(k:∀ x,At s.nw s.cw x r->K l.length x 0 (A4 l)=Y):Kp N a s K=Y:=by
 rw[MW];unfold Ww
 rw[j]
 have hL:=Aop h
 rw[A41,A48]at hL
 exact Alc d e hr l [] N s.nx f (by omega) (by rw[A43];omega) h k
def Av6{s:RB}{z:Int}{r:List Ap}(e:z=0\/z=1\/z=2)(h:At s.nw s.cw s.nx (S8 z++r))(d:s.er=0){K:Int->Int->Int->O R}{Y:O R}(k:∀ x,At s.nw s.cw x r->K z x 0=Y):Wx N s K=Y:=by
 rw[HO];unfold BV
 rcases e with rfl|rfl|rfl
 ·exact Gu (w:=Aii) h d fun x hx=>k x hx
 ·exact Gu (w:=K') h d fun x hx=>k x hx
 ·exact Gu (w:=Aua) h d fun x hx=>k x hx
def jq{n k:Nat}(h:n<=2000000000)(d:k<=1000):((ble n 140737488355328)&&(ble (n*k) 140737488355328))=true:=by
 have:n*k<=2000000000*1000:=A9y h d
 simp;omega
def jr{α:Type}(l:Sl α):Sl α:=.of l.l false false
def pE(b:BusD):BusD:={b with demand:=jr b.demand}
def Z1(l:LineD):LineD:={l with away:=jr l.away}
def zL(t:TieD):TieD:={t with imp:=jr t.imp,exp:=jr t.exp,price:=jr t.price}
def A1u(s:RB)(l:Sl Int):Prop:=(l.l.length:Int)=s.th/\l.l.length<=1000/\∀ z∈l.l,An z
def Az6(z:Int):tx z≠[]:=(Ak5 z).1
def Az7{s:RB}{b:BusD}{ns B r:List Ap}(e:fit 2000 N)(hN:1000000000<N)(f:A9 b.name=true)(j:b.name∉ns)(m:ns.length<32)(n:s.zB=ns.length)(q:s.yB=Au ns)(hn:s.nB<=1000000)(hdemand:A1u s b.demand)(d:An b.shed)(h:At s.nw s.cw s.nx (b.name::Qg::(b.demand.l.map tx++(pt::tx b.shed::r))))(t:s.er=0){K:Int->Int->Nat->Nat->LA->LA->O R}{Y:O R}(k:∀ x,At s.nw s.cw x r->K x 0 (s.nB+1) (ns++[b.name]).length (s.cB.take (s.nB*3)++(pE b).av) (Au (ns++[b.name]))=Y):DH N s K=Y:=by
 rw[PX];unfold MU
 refine Av0 hN f j m n q h t fun x h=>?_
 refine C3 (w:=Qg) h rfl fun x h=>?_
 refine gn e hN hdemand.2.2 hdemand.2.1 (by exact hdemand.1) h rfl fun x h=>?_
 refine C3 (w:=pt) h rfl fun x h=>?_
 refine pC d e h rfl fun x h=>?_
 rw[jq (by omega) (by omega),ct,FV]
 exact k x h
def Av7{s:RB}{u:StoreD}{ns B r:List Ap}(f:fit 2000 N)(hN:1000000000<N)(l:A9 u.name=true)(m:u.name∉ns)(n:ns.length<8)(q:s.zE=ns.length)(t:s.yE=Au ns)(hn:s.nS<=1000000)(hB:B.Nodup)(hBl:B.length<=1000000)(hzB:s.zB=B.length)(hyB:s.yB=Au B)(e:0<=u.bus/\u.bus<(B.length:Int))(hcapacity:An u.capacity)(hinitial:An u.initial)(d:An u.final)(hcharge:An u.charge)(hdischarge:An u.discharge)(j:Ks u.eff)(h:At s.nw s.cw s.nx (u.name::Be B u.bus::Mw::tx u.capacity::fq::tx u.initial::tx u.final::pu::tx u.charge::tx u.discharge::Uf::H6 u.eff::r))(v:s.er=0){K:Int->Int->Nat->Nat->LA->LA->O R}{Y:O R}(k:∀ x,At s.nw s.cw x r->K x 0 (s.nS+1) (ns++[u.name]).length (s.cS.take (s.nS*9)++u.av) (Au (ns++[u.name]))=Y):Wz N s K=Y:=by
 rw[HQ];unfold BX
 refine Av3 hN l m n q t h v fun x h=>?_
 refine UV hN hB (e:_/\_).1 e.2 hBl (by exact hzB) (by exact hyB) h rfl fun x h=>?_
 refine C3 (w:=Mw) h rfl fun x h=>?_
 refine rM hcapacity f h rfl fun x h=>?_
 refine C3 (w:=fq) h rfl fun x h=>?_
 refine rM hinitial f h rfl fun x h=>?_
 refine rM d f h rfl fun x h=>?_
 refine C3 (w:=pu) h rfl fun x h=>?_
 refine Ji hcharge f h rfl fun x h=>?_
 refine Ji hdischarge f h rfl fun x h=>?_
 refine C3 (w:=Uf) h rfl fun x h=>?_
 refine vD j f h rfl fun x h=>?_
 show cond (_&&_) (K x 0 (s.nS+1) _ (s.cS.take (s.nS*9)++u.av) _) none=_
 rw[jq (by omega) (by omega),ct]
 exact k x h
def Az8{s:RB}{t:TieD}{ns B r:List Ap}(m:fit 2000 N)(hN:1000000000<N)(n:A9 t.name=true)(q:t.name∉ns)(u:ns.length<8)(v:s.zF=ns.length)(y:s.yF=Au ns)(hn:s.nT<=1000000)(hB:B.Nodup)(hBl:B.length<=1000000)(hzB:s.zB=B.length)(hyB:s.yB=Au B)(j:0<=t.bus/\t.bus<(B.length:Int))(e:A1u s t.imp)(f:A1u s t.exp)(d:A1u s t.price)(h:At s.nw s.cw s.nx (t.name::Be B t.bus::S7::(t.imp.l.map tx++(LB::(t.exp.l.map tx++(WH::(t.price.l.map tx++r)))))))(z:s.er=0){K:Int->Int->Nat->Nat->LA->LA->O R}{Y:O R}(k:∀ x,At s.nw s.cw x r->K x 0 (s.nT+1) (ns++[t.name]).length (s.cT.take (s.nT*5)++(zL t).av) (Au (ns++[t.name]))=Y):DK N s K=Y:=by
 rw[QB];unfold NA
 refine Av4 hN n q u v y h z fun x h=>?_
 refine UV hN hB (j:_/\_).1 j.2 hBl (by exact hzB) (by exact hyB) h rfl fun x h=>?_
 refine C3 (w:=S7) h rfl fun x h=>?_
 refine gn m hN e.2.2 e.2.1 (by exact e.1) h rfl fun x h=>?_
 refine C3 (w:=LB) h rfl fun x h=>?_
 refine gn m hN f.2.2 f.2.1 (by exact f.1) h rfl fun x h=>?_
 refine C3 (w:=WH) h rfl fun x h=>?_
 refine Agw m hN d.2.2 d.2.1 (by exact d.1) h rfl fun x h=>?_
 rw[jq (by omega) (by omega),ct,FV,FV,FV]
 exact k x h
def Axx{s:RB}{l:LineD}{ns B r:List Ap}(n:fit 2000 N)(hN:1000000000<N)(v:A9 l.name=true)(y:l.name∉ns)(A:ns.length<64)(C:s.zC=ns.length)(D:s.yC=Au ns)(hn:s.nL<=1000000)(hB:B.Nodup)(hBl:B.length<=1000000)(hzB:s.zB=B.length)(hyB:s.yB=Au B)(q:0<=l.fr/\l.fr<(B.length:Int))(t:0<=l.tl/\l.tl<(B.length:Int))(u:Ks l.re)(e:Ks l.smin)(f:Ks l.smax)(d:An l.limit)(j:An l.emer)(m:∀ z∈l.away.l,An z)(hr:∀ w∈r.head?,w=([]:Ap))(h:At s.nw s.cw s.nx (l.name::Be B l.fr::Be B l.tl::Awp::H6 l.re::fl::H6 l.smin::H6 l.smax::fm::tx l.limit::tx l.emer::BB::(l.away.l.map tx++r)))(F:s.er=0){K:Int->Int->Nat->Nat->LA->LA->O R}{Y:O R}(k:∀ x,At s.nw s.cw x r->K x 0 (s.nL+1) (ns++[l.name]).length (s.cL.take (s.nL*12)++(Z1 l).av) (Au (ns++[l.name]))=Y):Zl N s K=Y:=by
 rw[MX];unfold GK
 refine Av1 hN v y A C D h F fun x h=>?_
 refine UV hN hB (q:_/\_).1 q.2 hBl (by exact hzB) (by exact hyB) h rfl fun x h=>?_
 refine UV hN hB (t:_/\_).1 t.2 hBl (by exact hzB) (by exact hyB) h rfl fun x h=>?_
 refine C3 (w:=Awp) h rfl fun x h=>?_
 refine vD u n h rfl fun x h=>?_
 refine C3 (w:=fl) h rfl fun x h=>?_
 refine vD e n h rfl fun x h=>?_
 refine vD f n h rfl fun x h=>?_
 refine C3 (w:=fm) h rfl fun x h=>?_
 refine Ji d n h rfl fun x h=>?_
 refine Ji j n h rfl fun x h=>?_
 refine C3 (w:=BB) h rfl fun x h=>?_
 refine Aqb n hN Az6 hr m h rfl fun x h=>?_
 rw[FV]
 show cond (_&&_) (K x 0 (s.nL+1) _ (s.cL.take (s.nL*12)++(Z1 l).av) _) none=_
 rw[jq (by omega) (by omega),ct]
 exact k x h
def U_(u:UnitD):UnitD:={u with segs:=jr u.segs,away:=jr u.away}
def fR(u:UnitD):List Int:=[u.min,u.max,u.noLoad,u.rampUp,u.rampDown,u.startRamp,u.stopRamp,u.upTime,u.downTime,u.startTime,u.hotCost,u.coldCost,u.hotHours,u.reserve,u.reservePrice,u.hours,u.output]
def Ald(u:UnitD)(r:List Ap):List Ap:=V4::tx u.noLoad::kN::tx u.rampUp::tx u.rampDown::WF::tx u.startRamp::kO::tx u.stopRamp::WG::tx u.upTime::tx u.downTime::tx u.startTime::kP::tx u.hotCost::tx u.coldCost::tx u.hotHours::D7::tx u.reserve::tx u.reservePrice::BB::(u.away.l.map tx++(Ys::(S8 u.state++(tx u.hours::tx u.output::r))))
def Asw(z:Int):tx z≠V4:=fun e=>by have:=Az5 z;rw[e]at this;revert this;decide
def Av8(z:Int):tx z≠Ys:=fun e=>by have:=Az5 z;rw[e]at this;revert this;decide
def Av9(l:List SegD):(AV.imm (take (l.length*2) (l.flatMap SegD.av)) l.length 2 false false)=Sl.av 2 SegD.av (.of l false false):=by rw[A44 (by rw[FQ (e:=SegD.av) (sz:=2) (fun _=>rfl)];exact A49 _)];rfl
def Asx{s:RB}{u:UnitD}{a:Nat}{b:LA}{fuel:Nat}{x:Int}{r:List Ap}(d:fit 2000 N)(hN:1000000000<N)(hn:s.nU<=1000000)(j:∀ z∈fR u,An z)(e:∀ z∈u.away.l,An z)(f:u.state=0\/u.state=1\/u.state=2)(h:At s.nw s.cw x (Ald u r)){K:Int->Int->Nat->Nat->LA->LA->O R}{Y:O R}(k:∀ x,At s.nw s.cw x r->K x 0 (s.nU+1) a (s.cU.take (s.nU*22)++(U_ u).av) b=Y):Fa N K s (fuel+1) x 0 a u.name u.bus u.min u.max u.segs.l.length b (u.segs.l.flatMap SegD.av)=Y:=by
 unfold Ald at h
 have q:∀ z:Int,z∈fR u->An z:=j
 unfold fR at q
 rw[Fa];unfold Pp
 refine B_ (w:=V4) h rfl ?_
 rw[show(V4==([110,111,108,111,97,100]:Lu))=true from rfl,A7b,cf]
 refine C3 (w:=V4) h rfl fun x h=>?_
 refine Axw (q u.noLoad (by simp)) d h rfl fun x h=>?_
 refine C3 (w:=kN) h rfl fun x h=>?_
 refine Ji (q u.rampUp (by simp)) d h rfl fun x h=>?_
 refine Ji (q u.rampDown (by simp)) d h rfl fun x h=>?_
 refine C3 (w:=WF) h rfl fun x h=>?_
 refine Ji (q u.startRamp (by simp)) d h rfl fun x h=>?_
 refine C3 (w:=kO) h rfl fun x h=>?_
 refine Ji (q u.stopRamp (by simp)) d h rfl fun x h=>?_
 refine C3 (w:=WG) h rfl fun x h=>?_
 refine pD (q u.upTime (by simp)) d h rfl fun x h=>?_
 refine pD (q u.downTime (by simp)) d h rfl fun x h=>?_
 refine pD (q u.startTime (by simp)) d h rfl fun x h=>?_
 refine C3 (w:=kP) h rfl fun x h=>?_
 refine Alb (q u.hotCost (by simp)) d h rfl fun x h=>?_
 refine Alb (q u.coldCost (by simp)) d h rfl fun x h=>?_
 refine pD (q u.hotHours (by simp)) d h rfl fun x h=>?_
 refine C3 (w:=D7) h rfl fun x h=>?_
 refine Ji (q u.reserve (by simp)) d h rfl fun x h=>?_
 refine pC (q u.reservePrice (by simp)) d h rfl fun x h=>?_
 refine C3 (w:=BB) h rfl fun x h=>?_
 refine Aqb (a:=Ys) d hN Av8 (by intro w m;cases m;rfl) e h rfl fun x h=>?_
 refine C3 (w:=Ys) h rfl fun x h=>?_
 refine Av6 f h rfl fun x h=>?_
 refine pD (q u.hours (by simp)) d h rfl fun x h=>?_
 refine Ji (q u.output (by simp)) d h rfl fun x h=>?_
 rw[jq (by omega) (by omega),ct,FV,Av9]
 exact k x h
def Ale{s:RB}{u:UnitD}{a:Nat}{b:LA}{r:List Ap}(j:fit 2000 N)(hN:1000000000<N)(hn:s.nU<=1000000)(n:∀ z∈fR u,An z)(d:∀ z∈u.away.l,An z)(f:u.state=0\/u.state=1\/u.state=2){K:Int->Int->Nat->Nat->LA->LA->O R}{Y:O R}(k:∀ x,At s.nw s.cw x r->K x 0 (s.nU+1) a (s.cU.take (s.nU*22)++(U_ u).av) b=Y):∀(l pre:List SegD)(fuel:Nat)(x:Int),pre++l=u.segs.l->(∀ g∈l,An g.width/\An g.price)->l.length<fuel->u.segs.l.length<=1000000->At s.nw s.cw x (l.flatMap aJ++Ald u r)->Fa N K s fuel x 0 a u.name u.bus u.min u.max pre.length b (pre.flatMap SegD.av)=Y
|[],pre,fuel+1,x,e,m,q,t,h=>by
  rw[A5h]at e
  rw[e]
  exact Asx j hN hn n d f h k
|g::l,pre,fuel+1,x,e,m,q,t,h=>by
  have v:=m g (A6v ..)
  rw[A42]at q
  have A:(pre++g::l).length=u.segs.l.length:=by rw[e]
  rw[A41,A42]at A
  have e3:(pre++[g])++l=u.segs.l:=by rw[<-e,A5e];rfl
  rw[Fa];unfold Pp
  have y:At s.nw s.cw x (tx g.width::tx g.price::(l.flatMap aJ++Ald u r)):=h
  refine B_ y rfl ?_
  rw[show(tx g.width==([110,111,108,111,97,100]:Lu))=false from beq_false_of_ne (Asw g.width),A7a,ct]
  refine Ji v.1 j y rfl fun x h=>?_
  refine pC v.2 j h rfl fun x h=>?_
  rw[jq (by omega) (by omega),ct,Mr pre g]
  rw[A44 (by rw[FQ (e:=SegD.av) (sz:=2) (fun _=>rfl)];exact A49 _)]
  rw[show List.flatMap SegD.av pre++[.int .i64 g.width,.int .i64 g.price]=List.flatMap SegD.av (pre++[g]) by rw[A6n];rfl]
  exact Ale j hN hn n d f k l (pre++[g]) fuel x e3 (fun w C=>m w (A5x _ C)) (by omega) t h
def Axy{s:RB}{u:UnitD}{ns B r:List Ap}(f:fit 2000 N)(hN:1000000000<N)(v:A9 u.name=true)(y:u.name∉ns)(A:ns.length<16)(C:s.zD=ns.length)(D:s.yD=Au ns)(hn:s.nU<=1000000)(hB:B.Nodup)(hBl:B.length<=1000000)(hzB:s.zB=B.length)(hyB:s.yB=Au B)(d:0<=u.bus/\u.bus<(B.length:Int))(t:∀ z∈fR u,An z)(e:∀ z∈u.away.l,An z)(j:u.state=0\/u.state=1\/u.state=2)(m:∀ g∈u.segs.l,An g.width/\An g.price)(n:u.segs.l.length<=1000000)(h:At s.nw s.cw s.nx (u.name::Be B u.bus::ZJ::tx u.min::sF::tx u.max::S6::(u.segs.l.flatMap aJ++Ald u r)))(F:s.er=0){K:Int->Int->Nat->Nat->LA->LA->O R}{Y:O R}(k:∀ x,At s.nw s.cw x r->K x 0 (s.nU+1) (ns++[u.name]).length (s.cU.take (s.nU*22)++(U_ u).av) (Au (ns++[u.name]))=Y):Tk N s K=Y:=by
 have q:∀ z:Int,z∈fR u->An z:=t
 unfold fR at q
 rw[M'];unfold Wy
 refine Av2 hN v y A C D h F fun x h=>?_
 refine UV hN hB d.1 d.2 hBl (by exact hzB) (by exact hyB) h rfl fun x h=>?_
 refine C3 (w:=ZJ) h rfl fun x h=>?_
 refine Ji (q u.min (by simp)) f h rfl fun x h=>?_
 refine C3 (w:=sF) h rfl fun x h=>?_
 refine Ji (q u.max (by simp)) f h rfl fun x h=>?_
 refine C3 (w:=S6) h rfl fun x h=>?_
 exact Ale f hN hn t e j k u.segs.l [] N x rfl m (by omega) n h
def gp(o:OutD):OutD:={o with lines:=jr o.lines,moves:=jr o.moves}
def Asy(l:List MoveD):(AV.imm (take (l.length*3) (l.flatMap MoveD.av)) l.length 3 false false)=Sl.av 3 MoveD.av (.of l false false):=by rw[A44 (by rw[FQ (e:=MoveD.av) (sz:=3) (fun _=>rfl)];exact A49 _)];rfl
def Ac0{s:RB}{o:OutD}{U:List Ap}{a:Nat}{b:LA}(f:fit 2000 N)(hN:1000000000<N)(hn:s.nO<=1000000)(hU:U.Nodup)(hUl:U.length<=1000000)(hzD:s.zD=U.length)(hyD:s.yD=Au U){K:Int->Int->Nat->Nat->LA->LA->O R}{Y:O R}(k:∀ x,At s.nw s.cw x []->K x 0 (s.nO+1) a (s.cO.take (s.nO*4)++(gp o).av) b=Y):∀(l pre:List MoveD)(fuel:Nat)(x:Int),pre++l=o.moves.l->(∀ m∈l,(0<=m.unit/\m.unit<(U.length:Int))/\An m.up/\An m.down)->l.length<fuel->o.moves.l.length<=1000000->At s.nw s.cw x (l.flatMap (Ta U))->G3 N K s a o.name o.lines.l.length o.corr b (A4 o.lines.l) fuel x 0 pre.length (pre.flatMap MoveD.av)=Y
|[],pre,fuel+1,x,e,j,n,q,h=>by
  rw[A5h]at e
  rw[e]
  rw[G3];unfold Mh
  refine fD h rfl ?_
  rw[cf,jq (by omega) (by omega),ct,FV,Asy]
  exact k x h
|g::l,pre,fuel+1,x,e,j,n,q,h=>by
  have d:=j g (A6v ..)
  rw[A42]at n
  have u:(pre++g::l).length=o.moves.l.length:=by rw[e]
  rw[A41,A42]at u
  have e3:(pre++[g])++l=o.moves.l:=by rw[<-e,A5e];rfl
  rw[G3];unfold Mh
  have t:At s.nw s.cw x (Be U g.unit::tx g.up::tx g.down::l.flatMap (Ta U)):=h
  refine gY t rfl ?_
  rw[ct]
  refine Asv hN hU d.1.1 d.1.2 hUl (by exact hzD) (by exact hyD) t rfl fun x h=>?_
  refine Ji d.2.1 f h rfl fun x h=>?_
  refine Ji d.2.2 f h rfl fun x h=>?_
  rw[jq (by omega) (by omega),ct,Mr pre g]
  rw[A44 (by rw[FQ (e:=MoveD.av) (sz:=3) (fun _=>rfl)];exact A49 _)]
  rw[show List.flatMap MoveD.av pre++[.int .i64 g.unit,.int .i64 g.up,.int .i64 g.down]=List.flatMap MoveD.av (pre++[g]) by rw[A6n];rfl]
  exact Ac0 f hN hn hU hUl hzD hyD k l (pre++[g]) fuel x e3 (fun w v=>j w (A5x _ v)) (by omega) q h
def Alf(U:List Ap)(o:OutD):List Ap:=cond o.corr [B4] []++o.moves.l.flatMap (Ta U)
def Axz{U:List Ap}{o:OutD}(e:o.corr=false)(d:(o.corr||o.moves.l.isEmpty)=true):Alf U o=[]:=by
 unfold Alf
 rw[e]at d ⊢
 have:o.moves.l=[]:=by simpa using d
 rw[this];rfl
def Aqc{s:RB}{o:OutD}{L U:List Ap}{a:Nat}{b:LA}(y:fit 2000 N)(hN:1000000000<N)(hn:s.nO<=1000000)(hU:U.Nodup)(hUl:U.length<=1000000)(hzD:s.zD=U.length)(hyD:s.yD=Au U)(hL:L.Nodup)(hLl:L.length<=1000000)(hzC:s.zC=L.length)(hyC:s.yC=Au L)(hLk:B4∉L)(f:(o.corr||o.moves.l.isEmpty)=true)(j:∀ m∈o.moves.l,(0<=m.unit/\m.unit<(U.length:Int))/\An m.up/\An m.down)(n:o.moves.l.length<=1000000){K:Int->Int->Nat->Nat->LA->LA->O R}{Y:O R}(k:∀ x,At s.nw s.cw x []->K x 0 (s.nO+1) a (s.cO.take (s.nO*4)++(gp o).av) b=Y):∀(l pre:List Int)(fuel:Nat)(x:Int),pre++l=o.lines.l->(∀ i∈l,0<=i/\i<(L.length:Int))->l.length<fuel->o.lines.l.length<=1000000->At s.nw s.cw x (l.map (Be L)++Alf U o)->Ew N K s a o.name b fuel x 0 pre.length (A4 pre)=Y
| [],pre,fuel+1,x,e,v,z,A,h=>by
  rw[A5h]at e
  rw[e]
  rw[Ew];unfold Mi
  have fin:=Ac0 (R:=R) (N:=N) (o:=o) (a:=a) (b:=b) y hN hn hU hUl hzD hyD k o.moves.l [] N
  cases u:o.corr with
  | true =>
   have d:At s.nw s.cw x (B4::o.moves.l.flatMap (Ta U)):=by
    have t:At s.nw s.cw x (Alf U o):=h
    unfold Alf at t;rw[u]at t;exact t
   refine B_ d rfl ?_
   rw[show(B4==([99,111,114,114,101,99,116,105,118,101]:Lu))=true from rfl,A7b,cf]
   refine gY d rfl ?_
   rw[ct]
   refine C3 (w:=B4) d rfl fun x h=>?_
   have:=fin x rfl j (by omega) n h
   rw[u]at this
   exact this
  | false =>
   have d:At s.nw s.cw x []:=by
    have t:At s.nw s.cw x (Alf U o):=h
    rw[Axz u f]at t;exact t
   refine sc d rfl ?_
   rw[cf]
   refine fD d rfl ?_
   rw[cf]
   have C:o.moves.l=[]:=by rw[u]at f;simpa using f
   have:=fin x rfl j (by omega) n (by rw[C];exact d)
   rw[u]at this
   exact this
| i::l,pre,fuel+1,x,e,v,z,A,h=>by
  have hi:=v i (A6v ..)
  rw[A42]at z
  have D:(pre++i::l).length=o.lines.l.length:=by rw[e]
  rw[A41,A42]at D
  have e3:(pre++[i])++l=o.lines.l:=by rw[<-e,A5e];rfl
  have d:At s.nw s.cw x (Be L i::(l.map (Be L)++Alf U o)):=h
  have ne:Be L i≠B4:=fun q=>hLk (by
   rw[<-q];unfold Be
   have:i.toNat<L.length:=by omega
   rw[A5f,A46 this];exact A5g _)
  rw[Ew];unfold Mi
  refine B_ d rfl ?_
  rw[show(Be L i==([99,111,114,114,101,99,116,105,118,101]:Lu))=false from beq_false_of_ne ne,A7a,ct]
  refine Asu hN hL hi.1 hi.2 hLl (by exact hzC) (by exact hyC) d rfl fun x h=>?_
  rw[Aqa (by omega),ct,UW,gk,Mr pre i]
  exact Aqc y hN hn hU hUl hzD hyD hL hLl hzC hyC hLk f j n k l (pre++[i]) fuel x e3 (fun w F=>v w (A5x _ F)) (by omega) A h
def Asz{s:RB}{o:OutD}{ns L U:List Ap}(q:fit 2000 N)(hN:1000000000<N)(t:A9 o.name=true)(u:o.name∉ns)(v:ns.length<64)(y:s.zG=ns.length)(z:s.yG=Au ns)(hn:s.nO<=1000000)(hU:U.Nodup)(hUl:U.length<=1000000)(hzD:s.zD=U.length)(hyD:s.yD=Au U)(hL:L.Nodup)(hLl:L.length<=1000000)(hzC:s.zC=L.length)(hyC:s.yC=Au L)(hLk:B4∉L)(d:(o.corr||o.moves.l.isEmpty)=true)(e:∀ m∈o.moves.l,(0<=m.unit/\m.unit<(U.length:Int))/\An m.up/\An m.down)(f:o.moves.l.length<=1000000)(j:∀ i∈o.lines.l,0<=i/\i<(L.length:Int))(n:o.lines.l.length<=1000000)(h:At s.nw s.cw s.nx (o.name::Ug::(o.lines.l.map (Be L)++Alf U o)))(A:s.er=0){K:Int->Int->Nat->Nat->LA->LA->O R}{Y:O R}(k:∀ x,At s.nw s.cw x []->K x 0 (s.nO+1) (ns++[o.name]).length (s.cO.take (s.nO*4)++(gp o).av) (Au (ns++[o.name]))=Y):Oc N s K=Y:=by
 rw[FE];unfold Sc
 refine Av5 hN t u v y z h A fun x h=>?_
 refine C3 (w:=Ug) h rfl fun x h=>?_
 exact Aqc q hN hn hU hUl hzD hyD hL hLl hzC hyC hLk d e f k o.lines.l [] N x rfl j (by omega) n h
end
end Gx.Ct
namespace Gx.Ct
open Go Go.Proofs Gx.Cf
structure Rd where
 bg:Bool
 th:Int
 rs:List Int
 bs:List BusD
 ls:List LineD
 us:List UnitD
 ss:List StoreD
 ts:List TieD
 os:List OutD
def Rd.rb(d:Rd)(nw:Nat)(cw:LA)(nx:Int):RB:=RB.mk nw nx 0 d.th d.rs.length d.bs.length d.ls.length d.us.length d.ss.length d.ts.length d.os.length d.bg 0 d.bs.length d.ls.length d.us.length d.ss.length d.ts.length d.os.length cw (A4 d.rs) (d.bs.flatMap BusD.av) (d.ls.flatMap LineD.av) (d.us.flatMap UnitD.av) (d.ss.flatMap StoreD.av) (d.ts.flatMap TieD.av) (d.os.flatMap OutD.av) [] (Au (d.bs.map BusD.name)) (Au (d.ls.map LineD.name)) (Au (d.us.map UnitD.name)) (Au (d.ss.map StoreD.name)) (Au (d.ts.map TieD.name)) (Au (d.os.map OutD.name))
section
variable{R:Type}{N:Nat}
def Agx(r0:Int->Int->Nat->Nat->Nat->Nat->Nat->Nat->Nat->Nat->Nat->Nat->Nat->Nat->LA->LA->LA->LA->LA->LA->LA->LA->LA->LA->LA->LA->O R)(d:Rd)(x:Int):O R:=r0 x 0 d.bs.length d.ls.length d.us.length d.ss.length d.ts.length d.os.length d.bs.length d.ls.length d.us.length d.ss.length d.ts.length d.os.length (d.bs.flatMap BusD.av) (d.ls.flatMap LineD.av) (d.us.flatMap UnitD.av) (d.ss.flatMap StoreD.av) (d.ts.flatMap TieD.av) (d.os.flatMap OutD.av) (Au (d.bs.map BusD.name)) (Au (d.ls.map LineD.name)) (Au (d.us.map UnitD.name)) (Au (d.ss.map StoreD.name)) (Au (d.ts.map TieD.name)) (Au (d.os.map OutD.name))
def KA{α:Type}{e:α->LA}{sz:Nat}(d:∀ a,(e a).length=sz)(l:List α)(a b:α)(f:e b=e a):take (l.length*sz) (l.flatMap e)++e b=(l++[a]).flatMap e:=by rw[A44 (by rw[FQ d];exact A49 _),A6n,f];simp
def UX{α:Type}(f:α->Ap)(l:List α)(a:α):(l.map f++[f a])=(l++[a]).map f:=by simp
def l_{s:RB}(h:At s.nw s.cw s.nx [])(d:s.er=0){K:Int->O R}{Y:O R}(k:K 0=Y):Gr N s K=Y:=by
 rw[TU];unfold RT
 refine fD h d ?_
 rw[cf,d];exact k
def Az9{d:Rd}{b:BusD}{nw:Nat}{cw:LA}{nx:Int}(m:fit 2000 N)(hN:1000000000<N)(f:d.bg=true)(n:A9 b.name=true)(q:b.name∉d.bs.map BusD.name)(s:d.bs.length<32)(hdemand:(b.demand.l.length:Int)=d.th/\b.demand.l.length<=1000/\∀ z∈b.demand.l,An z)(e:An b.shed)(h:At nw cw nx (TC b)){j:Int->Int->Nat->Nat->Nat->Nat->Nat->Nat->Nat->Nat->Nat->Nat->Nat->Nat->LA->LA->LA->LA->LA->LA->LA->LA->LA->LA->LA->LA->O R}{t:Int->Int->Int->Nat->LA->O R}{Y:O R}(k:∀ x,Agx j {d with bs:=d.bs++[pE b]} x=Y):B0 N (d.rb nw cw nx) j t=Y:=by
 rw[Cq];unfold Cy
 refine Gu (w:=Qf) h rfl fun x h=>?_
 rw[show((Qf==([99,97,115,101]:Lu))==(d.rb nw cw nx).bg)=false from by show((Qf==Dc)==d.bg)=false;rw[f];rfl,cf]
 show cond (Qf==Dc) _ _=_
 rw[show(Qf==Dc)=false from rfl,cf]
 show cond (Qf==Qf) _ _=_
 rw[show(Qf==Qf)=true from rfl,ct]
 refine Az7 (B:=[]) (ns:=d.bs.map BusD.name) (r:=[]) m hN n q (by rw[A48];exact s) (A48 _).symm rfl (by show d.bs.length<=1000000;omega) (by exact hdemand) e (by exact h) rfl fun x h=>?_
 refine l_ h rfl ?_
 simp only[Rd.rb]
 rw[KA Kj d.bs (pE b) (pE b) rfl,show d.bs.map BusD.name++[b.name]=(d.bs++[pE b]).map BusD.name from UX BusD.name d.bs (pE b),A48,Mr d.bs (pE b)]
 exact k x
def Ax0{d:Rd}{l:LineD}{nw:Nat}{cw:LA}{nx:Int}(A:fit 2000 N)(hN:1000000000<N)(q:d.bg=true)(s:A9 l.name=true)(C:l.name∉d.ls.map LineD.name)(D:d.ls.length<64)(hBn:(d.bs.map BusD.name).Nodup)(hBl:d.bs.length<=1000000)(t:0<=l.fr/\l.fr<(d.bs.length:Int))(u:0<=l.tl/\l.tl<(d.bs.length:Int))(v:Ks l.re)(f:Ks l.smin)(j:Ks l.smax)(e:An l.limit)(m:An l.emer)(n:∀ z∈l.away.l,An z)(h:At nw cw nx (Ng (d.bs.map BusD.name) l)){y:Int->Int->Nat->Nat->Nat->Nat->Nat->Nat->Nat->Nat->Nat->Nat->Nat->Nat->LA->LA->LA->LA->LA->LA->LA->LA->LA->LA->LA->LA->O R}{F:Int->Int->Int->Nat->LA->O R}{Y:O R}(k:∀ x,Agx y {d with ls:=d.ls++[Z1 l]} x=Y):B0 N (d.rb nw cw nx) y F=Y:=by
 rw[Cq];unfold Cy
 refine Gu (w:=Jm) h rfl fun x h=>?_
 rw[show((Jm==([99,97,115,101]:Lu))==(d.rb nw cw nx).bg)=false from by show((Jm==Dc)==d.bg)=false;rw[q];rfl,cf]
 show cond (Jm==Dc) _ _=_
 rw[show(Jm==Dc)=false from rfl,cf]
 show cond (Jm==Qf) _ _=_
 rw[show(Jm==Qf)=false from rfl,cf]
 show cond (Jm==Jm) _ _=_
 rw[show(Jm==Jm)=true from rfl,ct]
 refine Axx (ns:=d.ls.map LineD.name) (B:=d.bs.map BusD.name) (r:=[]) A hN s C (by rw[A48];exact D) (A48 _).symm rfl (by show d.ls.length<=1000000;omega) hBn (by rw[A48];exact hBl) (A48 _).symm rfl (by rw[A48];exact t) (by rw[A48];exact u) v f j e m n (by intro w s;cases s) (by rw[A5h];exact h) rfl fun x h=>?_
 refine l_ h rfl ?_
 simp only[Rd.rb]
 rw[KA D9 d.ls (Z1 l) (Z1 l) rfl,show d.ls.map LineD.name++[l.name]=(d.ls++[Z1 l]).map LineD.name from UX LineD.name d.ls (Z1 l),A48,Mr d.ls (Z1 l)]
 exact k x
def Ax1{d:Rd}{u:UnitD}{nw:Nat}{cw:LA}{nx:Int}(t:fit 2000 N)(hN:1000000000<N)(j:d.bg=true)(v:A9 u.name=true)(y:u.name∉d.us.map UnitD.name)(A:d.us.length<16)(hBn:(d.bs.map BusD.name).Nodup)(hBl:d.bs.length<=1000000)(f:0<=u.bus/\u.bus<(d.bs.length:Int))(C:∀ z∈fR u,An z)(e:∀ z∈u.away.l,An z)(m:u.state=0\/u.state=1\/u.state=2)(n:∀ g∈u.segs.l,An g.width/\An g.price)(q:u.segs.l.length<=1000000)(h:At nw cw nx (Jd (d.bs.map BusD.name) u)){s:Int->Int->Nat->Nat->Nat->Nat->Nat->Nat->Nat->Nat->Nat->Nat->Nat->Nat->LA->LA->LA->LA->LA->LA->LA->LA->LA->LA->LA->LA->O R}{D:Int->Int->Int->Nat->LA->O R}{Y:O R}(k:∀ x,Agx s {d with us:=d.us++[U_ u]} x=Y):B0 N (d.rb nw cw nx) s D=Y:=by
 rw[Cq];unfold Cy
 refine Gu (w:=I6) h rfl fun x h=>?_
 rw[show((I6==([99,97,115,101]:Lu))==(d.rb nw cw nx).bg)=false from by show((I6==Dc)==d.bg)=false;rw[j];rfl,cf]
 show cond (I6==Dc) _ _=_
 rw[show(I6==Dc)=false from rfl,cf]
 show cond (I6==Qf) _ _=_
 rw[show(I6==Qf)=false from rfl,cf]
 show cond (I6==Jm) _ _=_
 rw[show(I6==Jm)=false from rfl,cf]
 show cond (I6==I6) _ _=_
 rw[show(I6==I6)=true from rfl,ct]
 refine Axy (ns:=d.us.map UnitD.name) (B:=d.bs.map BusD.name) (r:=[]) t hN v y (by rw[A48];exact A) (A48 _).symm rfl (by show d.us.length<=1000000;omega) hBn (by rw[A48];exact hBl) (A48 _).symm rfl (by rw[A48];exact f) C e m n q (by exact h) rfl fun x h=>?_
 refine l_ h rfl ?_
 simp only[Rd.rb]
 rw[KA Gw d.us (U_ u) (U_ u) rfl,show d.us.map UnitD.name++[u.name]=(d.us++[U_ u]).map UnitD.name from UX UnitD.name d.us (U_ u),A48,Mr d.us (U_ u)]
 exact k x
def Awa{d:Rd}{u:StoreD}{nw:Nat}{cw:LA}{nx:Int}(n:fit 2000 N)(hN:1000000000<N)(l:d.bg=true)(q:A9 u.name=true)(s:u.name∉d.ss.map StoreD.name)(t:d.ss.length<8)(hBn:(d.bs.map BusD.name).Nodup)(hBl:d.bs.length<=1000000)(f:0<=u.bus/\u.bus<(d.bs.length:Int))(hcapacity:An u.capacity)(hinitial:An u.initial)(e:An u.final)(hcharge:An u.charge)(hdischarge:An u.discharge)(j:Ks u.eff)(h:At nw cw nx (Fu (d.bs.map BusD.name) u)){m:Int->Int->Nat->Nat->Nat->Nat->Nat->Nat->Nat->Nat->Nat->Nat->Nat->Nat->LA->LA->LA->LA->LA->LA->LA->LA->LA->LA->LA->LA->O R}{v:Int->Int->Int->Nat->LA->O R}{Y:O R}(k:∀ x,Agx m {d with ss:=d.ss++[u]} x=Y):B0 N (d.rb nw cw nx) m v=Y:=by
 rw[Cq];unfold Cy
 refine Gu (w:=F9) h rfl fun x h=>?_
 rw[show((F9==([99,97,115,101]:Lu))==(d.rb nw cw nx).bg)=false from by show((F9==Dc)==d.bg)=false;rw[l];rfl,cf]
 show cond (F9==Dc) _ _=_
 rw[show(F9==Dc)=false from rfl,cf]
 show cond (F9==Qf) _ _=_
 rw[show(F9==Qf)=false from rfl,cf]
 show cond (F9==Jm) _ _=_
 rw[show(F9==Jm)=false from rfl,cf]
 show cond (F9==I6) _ _=_
 rw[show(F9==I6)=false from rfl,cf]
 show cond (F9==F9) _ _=_
 rw[show(F9==F9)=true from rfl,ct]
 refine Av7 (ns:=d.ss.map StoreD.name) (B:=d.bs.map BusD.name) (r:=[]) n hN q s (by rw[A48];exact t) (A48 _).symm rfl (by show d.ss.length<=1000000;omega) hBn (by rw[A48];exact hBl) (A48 _).symm rfl (by rw[A48];exact f) hcapacity hinitial e hcharge hdischarge j (by exact h) rfl fun x h=>?_
 refine l_ h rfl ?_
 simp only[Rd.rb]
 rw[KA I8 d.ss u u rfl,show d.ss.map StoreD.name++[u.name]=(d.ss++[u]).map StoreD.name from UX StoreD.name d.ss u,A48,Mr d.ss u]
 exact k x
def A0a{d:Rd}{t:TieD}{nw:Nat}{cw:LA}{nx:Int}(s:fit 2000 N)(hN:1000000000<N)(n:d.bg=true)(u:A9 t.name=true)(v:t.name∉d.ts.map TieD.name)(y:d.ts.length<8)(hBn:(d.bs.map BusD.name).Nodup)(hBl:d.bs.length<=1000000)(f:0<=t.bus/\t.bus<(d.bs.length:Int))(j:(t.imp.l.length:Int)=d.th/\t.imp.l.length<=1000/\∀ z∈t.imp.l,An z)(m:(t.exp.l.length:Int)=d.th/\t.exp.l.length<=1000/\∀ z∈t.exp.l,An z)(e:(t.price.l.length:Int)=d.th/\t.price.l.length<=1000/\∀ z∈t.price.l,An z)(h:At nw cw nx (Uh (d.bs.map BusD.name) t)){q:Int->Int->Nat->Nat->Nat->Nat->Nat->Nat->Nat->Nat->Nat->Nat->Nat->Nat->LA->LA->LA->LA->LA->LA->LA->LA->LA->LA->LA->LA->O R}{A:Int->Int->Int->Nat->LA->O R}{Y:O R}(k:∀ x,Agx q {d with ts:=d.ts++[zL t]} x=Y):B0 N (d.rb nw cw nx) q A=Y:=by
 rw[Cq];unfold Cy
 refine Gu (w:=Qh) h rfl fun x h=>?_
 rw[show((Qh==([99,97,115,101]:Lu))==(d.rb nw cw nx).bg)=false from by show((Qh==Dc)==d.bg)=false;rw[n];rfl,cf]
 show cond (Qh==Dc) _ _=_
 rw[show(Qh==Dc)=false from rfl,cf]
 show cond (Qh==Qf) _ _=_
 rw[show(Qh==Qf)=false from rfl,cf]
 show cond (Qh==Jm) _ _=_
 rw[show(Qh==Jm)=false from rfl,cf]
 show cond (Qh==I6) _ _=_
 rw[show(Qh==I6)=false from rfl,cf]
 show cond (Qh==F9) _ _=_
 rw[show(Qh==F9)=false from rfl,cf]
 show cond (Qh==Qh) _ _=_
 rw[show(Qh==Qh)=true from rfl,ct]
 refine Az8 (ns:=d.ts.map TieD.name) (B:=d.bs.map BusD.name) (r:=[]) s hN u v (by rw[A48];exact y) (A48 _).symm rfl (by show d.ts.length<=1000000;omega) hBn (by rw[A48];exact hBl) (A48 _).symm rfl (by rw[A48];exact f) (by exact j) (by exact m) (by exact e) (by rw[A5h];exact h) rfl fun x h=>?_
 refine l_ h rfl ?_
 simp only[Rd.rb]
 rw[KA Hf d.ts (zL t) (zL t) rfl,show d.ts.map TieD.name++[t.name]=(d.ts++[zL t]).map TieD.name from UX TieD.name d.ts (zL t),A48,Mr d.ts (zL t)]
 exact k x
def As0{d:Rd}{o:OutD}{nw:Nat}{cw:LA}{nx:Int}(u:fit 2000 N)(hN:1000000000<N)(e:d.bg=true)(v:A9 o.name=true)(y:o.name∉d.os.map OutD.name)(z:d.os.length<64)(hUn:(d.us.map UnitD.name).Nodup)(hUl:d.us.length<=1000000)(hLn:(d.ls.map LineD.name).Nodup)(hLl:d.ls.length<=1000000)(hLk:B4∉d.ls.map LineD.name)(f:(o.corr||o.moves.l.isEmpty)=true)(j:∀ m∈o.moves.l,(0<=m.unit/\m.unit<(d.us.length:Int))/\An m.up/\An m.down)(n:o.moves.l.length<=1000000)(q:∀ i∈o.lines.l,0<=i/\i<(d.ls.length:Int))(s:o.lines.l.length<=1000000)(h:At nw cw nx (Mx (d.ls.map LineD.name) (d.us.map UnitD.name) o)){t:Int->Int->Nat->Nat->Nat->Nat->Nat->Nat->Nat->Nat->Nat->Nat->Nat->Nat->LA->LA->LA->LA->LA->LA->LA->LA->LA->LA->LA->LA->O R}{A:Int->Int->Int->Nat->LA->O R}{Y:O R}(k:∀ x,Agx t {d with os:=d.os++[gp o]} x=Y):B0 N (d.rb nw cw nx) t A=Y:=by
 rw[Cq];unfold Cy
 refine Gu (w:=Dd) h rfl fun x h=>?_
 rw[show((Dd==([99,97,115,101]:Lu))==(d.rb nw cw nx).bg)=false from by show((Dd==Dc)==d.bg)=false;rw[e];rfl,cf]
 show cond (Dd==Dc) _ _=_
 rw[show(Dd==Dc)=false from rfl,cf]
 show cond (Dd==Qf) _ _=_
 rw[show(Dd==Qf)=false from rfl,cf]
 show cond (Dd==Jm) _ _=_
 rw[show(Dd==Jm)=false from rfl,cf]
 show cond (Dd==I6) _ _=_
 rw[show(Dd==I6)=false from rfl,cf]
 show cond (Dd==F9) _ _=_
 rw[show(Dd==F9)=false from rfl,cf]
 show cond (Dd==Qh) _ _=_
 rw[show(Dd==Qh)=false from rfl,cf]
 show cond (Dd==Dd) _ _=_
 rw[show(Dd==Dd)=true from rfl,ct]
 refine Asz (ns:=d.os.map OutD.name) (L:=d.ls.map LineD.name) (U:=d.us.map UnitD.name) u hN v y (by rw[A48];exact z) (A48 _).symm rfl (by show d.os.length<=1000000;omega) hUn (by rw[A48];exact hUl) (A48 _).symm rfl hLn (by rw[A48];exact hLl) (A48 _).symm rfl hLk f (by rw[A48];exact j) n (by rw[A48];exact q) s (by exact h) rfl fun x h=>?_
 refine l_ h rfl ?_
 simp only[Rd.rb]
 rw[KA Ip d.os (gp o) (gp o) rfl,show d.os.map OutD.name++[o.name]=(d.os++[gp o]).map OutD.name from UX OutD.name d.os (gp o),A48,Mr d.os (gp o)]
 exact k x
end
end Gx.Ct
namespace Gx.Ct
open Go Go.Proofs Gx.Cf
section
variable{R:Type}{N:Nat}
def Ax2{d:Rd}{z:Int}{l:List Int}{nw:Nat}{cw:LA}{nx:Int}(f:fit 2000 N)(hN:1000000000<N)(e:d.bg=false)(m:1<=z)(n:z<=24)(q:(l.length:Int)=z)(s:∀ z∈l,An z)(h:At nw cw nx ([Dc,tx z,D7]++l.map tx)){t:Int->Int->Nat->Nat->Nat->Nat->Nat->Nat->Nat->Nat->Nat->Nat->Nat->Nat->LA->LA->LA->LA->LA->LA->LA->LA->LA->LA->LA->LA->O R}{j:Int->Int->Int->Nat->LA->O R}{Y:O R}(k:∀ x,j x 0 z l.length (A4 l)=Y):B0 N (d.rb nw cw nx) t j=Y:=by
 rw[Cq];unfold Cy
 refine Gu (w:=Dc) h rfl fun x h=>?_
 rw[show((Dc==([99,97,115,101]:Lu))==(d.rb nw cw nx).bg)=false from by show((Dc==Dc)==d.bg)=false;rw[e];rfl,cf]
 show cond (Dc==Dc) _ _=_
 rw[show(Dc==Dc)=true from rfl,ct]
 refine Ap9 (z:=z) (by unfold An;omega) m n (f.le (by omega)) h rfl fun x h=>?_
 refine C3 (w:=D7) h rfl fun x h=>?_
 refine gn (l:=l) (r:=[]) f hN s (by omega) (by exact q) (by rw[A5h];exact h) rfl fun x h=>?_
 refine l_ h rfl ?_
 exact k x
noncomputable def pq(N:Nat)(K:LA->Int->Int->O R)(d:Rd)(fuel:Nat)(rem:Lu)(u:Int)(more:Bool)(nw:Nat)(nx:Int)(cw:LA):O R:=Mj N K fuel rem u more nw nx 0 d.th d.rs.length d.bs.length d.ls.length d.us.length d.ss.length d.ts.length d.os.length d.bg d.bs.length d.ls.length d.us.length d.ss.length d.ts.length d.os.length cw (A4 d.rs) (d.bs.flatMap BusD.av) (d.ls.flatMap LineD.av) (d.us.flatMap UnitD.av) (d.ss.flatMap StoreD.av) (d.ts.flatMap TieD.av) (d.os.flatMap OutD.av) (Au (d.bs.map BusD.name)) (Au (d.ls.map LineD.name)) (Au (d.us.map UnitD.name)) (Au (d.ss.map StoreD.name)) (Au (d.ts.map TieD.name)) (Au (d.os.map OutD.name))
def Qo(N:Nat)(R:Type)(s:Lu)(ws:List Ap):Prop:=∀ K:Nat->LA->O R,nN N s K=K ws.length (ws.map AV.str)
def Alg{K:LA->Int->Int->O R}{d:Rd}{fuel:Nat}{rem s T9:Lu}{u:Int}{m:Bool}{nw:Nat}{nx:Int}{cw:LA}{Y:O R}(e:Lib.cut rem [10]=(s,T9,m))(hr:rem.length<=4294967280)(hs:Qo N R s [])(k:pq N K d fuel T9 (wrap .i64 (u+1)) m 0 0 []=Y):pq N K d (fuel+1) rem u true nw nx cw=Y:=by
 unfold pq
 rw[Mj];unfold Uu
 rw[ct,Axt hr,e]
 dsimp only
 rw[hs]
 exact fD (s:=d.rb 0 [] 0) (yR (ws:=[]) (by decide)) rfl k
def Ax3{K:LA->Int->Int->O R}{d d':Rd}{fuel:Nat}{rem s T9:Lu}{u:Int}{m:Bool}{nw:Nat}{nx:Int}{cw:LA}{w:Ap}{ws:List Ap}{Y:O R}(l:Lib.cut rem [10]=(s,T9,m))(hr:rem.length<=4294967280)(hs:Qo N R s (w::ws))(n:(w::ws).length<=2000000)(q:d'.th=d.th)(t:d'.bg=d.bg)(e:d'.rs=d.rs)
  (st:∀(f:Int->Int->Nat->Nat->Nat->Nat->Nat->Nat->Nat->Nat->Nat->Nat->Nat->Nat->LA->LA->LA->LA->LA->LA->LA->LA->LA->LA->LA->LA->O R)(v:Int->Int->Int->Nat->LA->O R),At (w::ws).length ((w::ws).map AV.str) 0 (w::ws)->(∀ x,Agx f d' x=Y)->B0 N (d.rb (w::ws).length ((w::ws).map AV.str) 0) f v=Y)
  (k:∀ x,pq N K d' fuel T9 (wrap .i64 (u+1)) m (w::ws).length x ((w::ws).map AV.str)=Y):pq N K d (fuel+1) rem u true nw nx cw=Y:=by
 unfold pq
 rw[Mj];unfold Uu
 rw[ct,Axt hr,l]
 dsimp only
 rw[hs]
 have j:=yR n
 refine gY (s:=d.rb (w::ws).length ((w::ws).map AV.str) 0) j rfl ?_
 rw[A7b,cf]
 refine st _ _ j fun x=>?_
 unfold Agx
 refine vA rfl ?_
 rw[A7b,cf]
 have:=k x
 unfold pq at this
 rw[q,t,e]at this
 exact this
def Ax4{K:LA->Int->Int->O R}{d:Rd}{z:Int}{l:List Int}{fuel:Nat}{rem s T9:Lu}{u:Int}{m:Bool}{nw:Nat}{nx:Int}{cw:LA}{Y:O R}(n:fit 2000 N)(hN:1000000000<N)(e:d.bg=false)(q:1<=z)(t:z<=24)(f:(l.length:Int)=z)(v:∀ z∈l,An z)(y:Lib.cut rem [10]=(s,T9,m))(hr:rem.length<=4294967280)(hs:Qo N R s ([Dc,tx z,D7]++l.map tx))
  (k:∀ x,pq N K {d with bg:=true,th:=z,rs:=l} fuel T9 (wrap .i64 (u+1)) m ([Dc,tx z,D7]++l.map tx).length x (([Dc,tx z,D7]++l.map tx).map AV.str)=Y):pq N K d (fuel+1) rem u true nw nx cw=Y:=by
 unfold pq
 rw[Mj];unfold Uu
 rw[ct,Axt hr,y]
 dsimp only
 rw[hs]
 have j:=yR (ws:=[Dc,tx z,D7]++l.map tx) (by rw[A41,A48];show 3+l.length<=_;omega)
 refine gY (s:=d.rb _ _ 0) j rfl ?_
 rw[A7b,cf]
 refine Ax2 (d:=d) n hN e q t f v j fun x=>?_
 refine vA rfl ?_
 rw[A7b,cf]
 exact k x
def Aa2(b:UInt8):Bool:=b==32||(b==9||b==13)
def fw:Lu->Ap->List Ap
|[],w=>if w=[]then []else [w]
|b::r,w=>if Aa2 b=true then(if w=[]then fw r []else w::fw r [])else fw r (w++[b])
def Aoq(p:Nat×Nat):LA:=[.int .i64 (p.1:Int),.int .i64 (p.2:Int)]
def Atb(a:Lu)(p:Nat×Nat):Ap:=take (p.2 - p.1) (drop p.1 a)
def Ax5(a:Lu)(p:Nat×Nat):Prop:=p.1<=p.2/\p.2<=a.length
def A0b{c:UInt8}{K:Bool->O R}:IS N (c.toNat:Int) K=K (Aa2 c):=by
 rw[TQ];unfold RM Aa2
 have e:∀ k:UInt8,((c.toNat:Int)==(k.toNat:Int))=(c==k):=fun k=>by
  rw[Bool.eq_iff_iff];simp only[beq_iff_eq]
  exact⟨fun h=>A8q.1 (by omega),fun h=>by rw[h]⟩
 have e1:((c.toNat:Int)==32)=(c==32):=e 32
 have d:((c.toNat:Int)==9)=(c==9):=e 9
 have e3:((c.toNat:Int)==13)=(c==13):=e 13
 rw[e1,d,e3]
 cases c==32<;>cases c==9<;>cases c==13<;>rfl
def Ax6{h:Int}(d:0<=h/\h<=4611686018427387904):Ad6 .i64 (-1) h=-h - 1:=by
 obtain⟨n,rfl⟩:∃ n:Nat,h=(n:Int):=⟨h.toNat,by omega⟩
 unfold Ad6
 show wrap .i64 (((BitVec.ofInt 64 (-1) ^^^ BitVec.ofInt 64 (n:Int)).toNat:Nat):Int)=_
 rw[show BitVec.ofInt 64 (-1)=BitVec.allOnes 64 by decide,BitVec.allOnes_xor,BitVec.toNat_not,BitVec.toNat_ofInt,IntKind.wrap_i64]
 have:(((n:Int)%((2 ^ 64:Nat):Int)).toNat)=n:=by omega
 rw[this]
 omega
def Aqd(sp:List (Nat×Nat)):take (sp.length*2) (sp.flatMap Aoq)=sp.flatMap Aoq:=by rw[A44 (by rw[FQ (e:=Aoq) (sz:=2) (fun _=>rfl)];exact A49 _)]
def yx{a:Lu}(t:∀ c∈a,c.toNat<128)(v:a.length<=2000000){K:Nat->LA->O R}:∀(r pre w:Lu)(sp:List (Nat×Nat))(fuel:Nat)(h:Int),a=pre++(w++r)->r.length<fuel->sp.length+r.length<=2000000->(w=[]/\h<0\/w≠[]/\h=(pre.length:Int))->(∀ p∈sp,Ax5 a p) ->
  ∃ d:List (Nat×Nat),d.length<=2000001/\(∀ p∈d,Ax5 a p)/\d.map (Atb a)=sp.map (Atb a)++fw r w/\D3 N K a fuel sp.length h (sp.flatMap Aoq) ((pre.length+w.length:Nat):Int)=Kw N K a d.length (d.flatMap Aoq)
| [],pre,w,sp,fuel+1,h,e,z,f,x,hs=>by
  have C:a.length=pre.length+w.length:=by rw[e];simp
  rw[D3];unfold Jr
  rw[Fk (by omega),cf]
  rcases x with⟨w0,j⟩|⟨w0,j⟩
  ·refine⟨sp,by simp at f;omega,hs,by rw[w0];simp[fw],?_⟩
   rw[show decide (h>=0)=false from decide_eq_false (by omega),cf]
  ·refine⟨sp++[(pre.length,a.length)],by rw[A41];simp at f ⊢;omega,fun p f=>?_,?_,?_⟩
   ·rcases A5d.1 f with q|q
    ·exact hs p q
    ·rw[A61.1 q];exact⟨by show pre.length<=a.length;omega,A49 _⟩
   ·rw[A6t];congr 1
    show [Atb a (pre.length,a.length)]=fw [] w
    rw[fw,if_neg w0];congr 1
    show take (a.length - pre.length) (drop pre.length a)=w
    rw[e,A8u,A5h,A44 (by simp)]
   ·rw[show decide (h>=0)=true from decide_eq_true (by omega),ct,jq (by simp at f;omega) (by omega),ct,Aqd,Mr sp (pre.length,a.length),A6n,j];rfl
| c::r,pre,w,sp,fuel+1,h,e,z,f,x,hs=>by
  rw[A42]at z f
  have C:a.length=pre.length+(w.length+(r.length+1)):=by rw[e];simp
  have u:pre.length+w.length<a.length:=by omega
  have D:a[pre.length+w.length]=c:=by
   simp only[e,<-A5e]
   rw[List.getElem_append_right (by simp)];simp
  have A:=lY (s:=a) (p:=pre.length+w.length) u (t _ (A5g _))
  rw[D]at A
  rw[D3];unfold Jr
  rw[Er u,ct,A]
  dsimp only
  rw[A0b]
  have st:(((pre.length+w.length:Nat):Int)+((1:Nat):Int))=((pre.length+w.length+1:Nat):Int):=by omega
  rw[st]
  cases y:Aa2 c with
  | true =>
   rw[ct]
   rcases x with⟨w0,j⟩|⟨w0,j⟩
   ·subst w0
    obtain⟨d,k,l,m,n⟩:=yx t v (K:=K) r (pre++[c]) [] sp fuel h (by rw[e];simp) (by omega) (by omega) (.inl ⟨rfl,j⟩) hs
    refine⟨d,k,l,by rw[m,fw,if_pos y,if_pos rfl],?_⟩
    rw[show decide (h>=0)=false from decide_eq_false (by omega),cf]
    rw[<-n];simp
   ·have F:Ad6 .i64 (-1) h=-h - 1:=Ax6 (by omega)
    obtain⟨d,k,l,m,n⟩:=yx t v (K:=K) r (pre++(w++[c])) [] (sp++[(pre.length,pre.length+w.length)]) fuel (-h - 1) (by rw[e];simp) (by omega) (by rw[A41];simp;omega) (.inl ⟨rfl,by omega⟩) (fun p f=>by
     rcases A5d.1 f with q|q
     ·exact hs p q
     ·rw[A61.1 q];exact⟨by show pre.length<=_;omega,by show pre.length+w.length<=_;omega⟩)
    refine⟨d,k,l,?_,?_⟩
    ·rw[m,fw,if_pos y,if_neg w0,A6t,A5e];congr 1
     show [Atb a (pre.length,pre.length+w.length)]++_=_
     rw[show Atb a (pre.length,pre.length+w.length)=w by
      show take (pre.length+w.length - pre.length) (drop pre.length a)=w
      rw[e,A8u,A9a,A9w]]
     rfl
    ·rw[show decide (h>=0)=true from decide_eq_true (by omega),ct,jq (by omega) (by omega),ct,Aqd,F,<-n,Mr sp (pre.length,pre.length+w.length),A6n,j]
     simp[Aoq,A6l]
  | false =>
   rw[cf]
   rcases x with⟨w0,j⟩|⟨w0,j⟩
   ·subst w0
    obtain⟨d,k,l,m,n⟩:=yx t v (K:=K) r pre [c] sp fuel (pre.length:Int) (by rw[e];simp) (by omega) (by omega) (.inr ⟨by simp,rfl⟩) hs
    refine⟨d,k,l,by rw[m,fw,if_neg (by rw[y];simp)];rfl,?_⟩
    rw[show decide (h<0)=true from decide_eq_true (by omega),ct]
    rw[<-n];simp
   ·obtain⟨d,k,l,m,n⟩:=yx t v (K:=K) r pre (w++[c]) sp fuel h (by rw[e];simp) (by omega) (by omega) (.inr ⟨by simp,j⟩) hs
    refine⟨d,k,l,by rw[m,fw,if_neg (by rw[y];simp)],?_⟩
    rw[show decide (h<0)=false from decide_eq_false (by omega),cf]
    rw[<-n];simp[A6l]
def A1k{sp:List (Nat×Nat)}{j:Nat}(h:j<sp.length):take 2 (drop (0+Int.toNat (j:Int)*2) (sp.flatMap Aoq))=Aoq sp[j]:=by rw[A5j];exact Bp (e:=Aoq) (fun _=>rfl) h
def A0c{sp:List (Nat×Nat)}{j:Nat}(h:j<sp.length):ble 2 (List.length (drop (0+Int.toNat (j:Int)*2) (sp.flatMap Aoq)))=true:=by rw[A5j];exact Cd (e:=Aoq) (fun _=>rfl) h
def Awb{a:Lu}(e:a.length<=2000000){sp:List (Nat×Nat)}(hs:∀ p∈sp,Ax5 a p)(hn:sp.length<=2000001){K:Nat->LA->O R}:∀(m j fuel:Nat),j+m=sp.length->m<fuel ->
  Fg N K a sp.length (sp.flatMap Aoq) fuel (sp.length:Int) (j:Int) (Au ((sp.take j).map (Atb a))++replicate m (.str []))=K sp.length (Au (sp.map (Atb a)))
|0,j,fuel+1,f,_=>by
  rw[Fg];unfold Jq
  rw[Fk (by omega),cf,A44 (by omega)]
  simp
|m+1,j,fuel+1,f,q=>by
  have h:j<sp.length:=by omega
  have k:=hs _ (A5g h)
  unfold Ax5 at k
  rw[Fg];unfold Jq
  rw[Er h,ct,Aa h,ct,A0c h,ct,A1k h]
  have l:∀ F:Int->Int->O R,Ax .i64 (setCells [Bbz,Bbz] 0 (Aoq sp[j])) (fun m=>Ax .i64 ((setCells [Bbz,Bbz] 0 (Aoq sp[j])).drop 1) fun o=>F m o)=F ((sp[j].1:Nat):Int) ((sp[j].2:Nat):Int):=fun F=>rfl
  rw[show((beq (List.length (Aoq sp[j])) 2)&&((ble 2 2)&&(!false)))=true from rfl,ct]
  rw[l]
  rw[show((decide (0<=((sp[j].1:Nat):Int)))&&((decide (((sp[j].1:Nat):Int)<=((sp[j].2:Nat):Int)))&&((decide (((sp[j].2:Nat):Int)<=(a.length:Int)))&&(decide ((a.length:Int)<=(a.length:Int))))))=true by simp;omega,ct,ct]
  have d:(Au ((sp.take j).map (Atb a))).length=j:=by simp[Au];omega
  rw[show((beq 1 1)&&((ble ((0+(Int.toNat (j:Int))*1)+1) (List.length (Au ((sp.take j).map (Atb a))++replicate (m+1) (.str []))))&&(!false)))=true by rw[A41,d,List.length_replicate];simp,ct,Q8 (by omega)]
  have n:=Awb e hs hn (K:=K) m (j+1) fuel (by omega) (by omega)
  refine A7p ?_ n
  congr 1
  rw[show 0+Int.toNat (j:Int)*1=j by omega]
  rw[A9n _ _ (by omega),d,Nat.sub_self,A8c,A99]
  rw[A81,A46 h]
  show _=Au (List.map (Atb a) (take j sp++[sp[j]]))++_
  rw[A6t,show List.map (Atb a) [sp[j]]=[Atb a sp[j]]from rfl,<-Ep,A5e]
  rfl
def Ac1{a:Lu}(e:∀ c∈a,c.toNat<128)(m:a.length<=1048576)(hN:1000000000<N){K:Nat->LA->O R}:Hq N a K=K (fw a []).length (Au (fw a [])):=by
 rw[Zc];unfold Nq
 obtain⟨sp,f,j,d,k⟩:=yx (N:=N) e (by omega) (K:=K) a [] [] [] N (-1) rfl (by omega) (by rw[A43];omega) (.inl ⟨rfl,by omega⟩) (by intro p l;cases l)
 refine k.trans ?_
 unfold Kw Pl
 rw[show((decide (0<=(sp.length:Int)))&&((decide ((sp.length:Int)<=(sp.length:Int)))&&((decide ((sp.length:Int)<=140737488355328))&&(decide (((sp.length:Int)*((16:Nat):Int))<=140737488355328)))))=true by simp;omega,ct]
 have:=Awb (N:=N) (a:=a) (by omega) j f (K:=K) sp.length 0 N (by omega) (by omega)
 refine A7p ?_ (this.trans ?_)
 ·simp[Au]
 ·rw[d];simp only[A5v,A50]
  have:=congrArg List.length d
  rw[A48]at this
  rw[this];rfl
def As1:Lu->Lu
|[]=>[]
|c::r=>if c=35 then []else c::As1 r
def Ac2:∀ s:Lu,(Lib.indexByte s 35=-1/\As1 s=s)\/∃ n:Nat,Lib.indexByte s 35=(n:Int)/\n<=s.length/\As1 s=s.take n
|[]=>.inl ⟨rfl,rfl⟩
| c::r=>by
  have d:=Ac2 r
  rw[Lib.indexByte,As1]
  by_cases h:c=35
  ·right;refine⟨0,?_,by omega,?_⟩
   ·rw[if_pos (by simpa using h)];rfl
   ·rw[if_pos h];rfl
  ·rw[if_neg h]
   rcases d with⟨i1,i2⟩|⟨n,i1,i2,i3⟩
   ·left
    refine⟨?_,by rw[i2]⟩
    rw[i1];simp[h]
   ·right
    refine⟨n+1,?_,by rw[A42];omega,by rw[A8d,i3]⟩
    rw[i1];simp[h]<;>omega
def Ax7(s:Lu):∀ c∈As1 s,c∈s:=by
 induction s with
|nil=>intro c d;exact d
| cons a r e =>
  intro c d
  rw[As1]at d
  split at d
  ·cases d
  ·rcases A5b.1 d with q|q
   ·rw[q];simp
   ·exact A5x _ (e c q)
def Alh{s:Lu}(e:∀ c∈s,c.toNat<128)(k:s.length<=1048576)(hN:1000000000<N):Qo N R s (fw (As1 s) []):=fun K=>by
 rw[nP];unfold qY
 rw[AC];unfold Xf
 rw[Cl];unfold C2
 rw[show(Int.toNat 35).toUInt8=(35:UInt8)from rfl]
 rcases Ac2 s with⟨d,f⟩|⟨n,d,f,j⟩
 ·rw[d,f]
  dsimp only
  rw[show decide ((-1:Int)>=0)=false from rfl,cf,Ac1 e k hN];rfl
 ·rw[d]
  dsimp only
  rw[show decide ((n:Int)>=0)=true from decide_eq_true (by omega),ct]
  rw[show((decide ((0:Int)<=(0:Int)))&&(true&&((decide ((n:Int)<=(s.length:Int)))&&(decide ((s.length:Int)<=(s.length:Int))))))=true by simp;omega,ct,A45,<-j]
  have l:(As1 s).length<=1048576:=by rw[j,A58];omega
  rw[Ac1 (fun c m=>e c (Ax7 s c m)) l hN];rfl
end
end Gx.Ct
namespace Gx.Ct
open Go Go.Proofs Gx.Cf
def A3t(w:Ap):Prop:=w≠[]/\∀ c∈w,Aa2 c=false/\c≠10/\c≠35/\c.toNat<128
def Aqe:∀(s r:Lu),(∀ c∈s,Aa2 c=true)->fw (s++r) []=fw r []
|[],r,_=>rfl
|c::s,r,h=>by
  rw[A5i,fw,if_pos (h c (A6v ..)),if_pos rfl]
  exact Aqe s r fun x hx=>h x (A5x _ hx)
def Agy:∀(w r v:Lu),(∀ c∈w,Aa2 c=false)->fw (w++r) v=fw r (v++w)
|[],r,v,_=>by rw[A50,A5h]
|c::w,r,v,h=>by rw[A5i,fw,if_neg (by rw[h c (A6v ..)];decide),Agy w r (v++[c]) fun x hx=>h x (A5x _ hx),A5e];rfl
def Ax8{w s r:Lu}(d:A3t w)(hs:s≠[])(e:∀ c∈s,Aa2 c=true):fw (w++(s++r)) []=w::fw r []:=by
 rw[Agy w _ [] fun c h=>(d.2 c h).1,A50]
 cases s with
|nil=>exact absurd rfl hs
|cons c s =>
  rw[A5i,fw,if_pos (e c (A6v ..)),if_neg d.1,Aqe s r fun x hx=>e x (A5x _ hx)]
def Aqf:∀(a b:Lu),(∀ c∈a,c≠35)->As1 (a++b)=a++As1 b
|[],b,_=>rfl
|c::a,b,h=>by rw[A5i,As1,if_neg (h c (A6v ..)),Aqf a b fun x hx=>h x (A5x _ hx)];rfl
def txt:List Lu->Lu->Lu
|[],e=>e
|l::r,e=>l++10::txt r e
def Aqg{l:Lu}{r:List Lu}{e:Lu}(h:(10:UInt8)∉l):Lib.cut (txt (l::r) e) [10]=(l,txt r e,true):=Avy h
def Ax9{e:Lu}(h:(10:UInt8)∉e):Lib.cut (txt [] e) [10]=(e,[],false):=Az2 h
def Aqh:∀(L:List Lu)(e:Lu),L.length<=(txt L e).length
|[],e=>by simp
|l::r,e=>by
  have:=Aqh r e
  rw[txt,A41,A42,A42];omega
end Gx.Ct
namespace Gx.Ct
open Go Go.Proofs Gx.Cf
section
variable{R:Type}{N:Nat}
def Step(N:Nat)(R:Type)(d:Rd)(ws:List Ap)(d':Rd):Prop:=∀ ⦃K:LA->Int->Int->O R⦄ ⦃fuel:Nat⦄ ⦃rem s T9:Lu⦄ ⦃u:Int⦄ ⦃m:Bool⦄ ⦃nw:Nat⦄ ⦃nx:Int⦄ ⦃cw:LA⦄ ⦃Y:O R⦄,Lib.cut rem [10]=(s,T9,m)->rem.length<=4294967280->Qo N R s ws->(∀ u' nw' x cw',pq N K d' fuel T9 u' m nw' x cw'=Y)->pq N K d (fuel+1) rem u true nw nx cw=Y
inductive Walk(N:Nat)(R:Type):List (List UInt8)->Rd->Rd->Prop
|nil (d:Rd):Walk N R [] d d
|skip {l:List UInt8} {L:List (List UInt8)} {d d':Rd}:(10:UInt8)∉l->Qo N R l []->Walk N R L d d'->Walk N R (l::L) d d'
|stmt {l:List UInt8} {L:List (List UInt8)} {ws:List Ap} {d e d':Rd}:(10:UInt8)∉l->Qo N R l ws->Step N R d ws e->Walk N R L e d'->Walk N R (l::L) d d'
def Awc{K:LA->Int->Int->O R}{e:Lu}{L:List Lu}{d d':Rd}(w:Walk N R L d d'):∀{fuel:Nat}{u:Int}{nw:Nat}{nx:Int}{cw:LA}{Y:O R},(txt L e).length<=4294967280->(∀ s f x j,pq N K d' fuel e s true f x j=Y)->pq N K d (fuel+L.length) (txt L e) u true nw nx cw=Y:=by
 induction w with
|nil d=>intro fuel u nw nx cw Y _ k;exact k _ _ _ _
|skip m n _ q =>
  intro fuel u nw nx cw Y l k
  rw[txt,A41,A42]at l
  exact Alg (Aqg m) (by rw[txt,A41,A42];exact l) n (q (by omega) k)
|stmt m n t _ q =>
  intro fuel u nw nx cw Y l k
  rw[txt,A41,A42]at l
  exact t (Aqg m) (by rw[txt,A41,A42];exact l) n fun s f x j=>q (by omega) k
def gq{d d':Rd}{w:Ap}{ws:List Ap}(j:(w::ws).length<=2000000)(l:d'.th=d.th)(m:d'.bg=d.bg)(e:d'.rs=d.rs)
  (st:∀{Y:O R}{f:Int->Int->Nat->Nat->Nat->Nat->Nat->Nat->Nat->Nat->Nat->Nat->Nat->Nat->LA->LA->LA->LA->LA->LA->LA->LA->LA->LA->LA->LA->O R}{n:Int->Int->Int->Nat->LA->O R},At (w::ws).length ((w::ws).map AV.str) 0 (w::ws)->(∀ x,Agx f d' x=Y)->B0 N (d.rb (w::ws).length ((w::ws).map AV.str) 0) f n=Y):Step N R d (w::ws) d':=fun _ _ _ _ _ _ _ _ _ _ _ q hr hs k=>Ax3 q hr hs j l m e (fun _ _ s kk=>st s kk) fun x=>k _ _ _ _
def Awd{d:Rd}{b:BusD}(k:fit 2000 N)(hN:1000000000<N)(j:d.bg=true)(m:A9 b.name=true)(n:b.name∉d.bs.map BusD.name)(q:d.bs.length<32)(hdemand:(b.demand.l.length:Int)=d.th/\b.demand.l.length<=1000/\∀ z∈b.demand.l,An z)(e:An b.shed)(f:(TC b).length<=2000000):Step N R d (TC b) {d with bs:=d.bs++[pE b]}:=gq (w:=Qf) (ws:=(TC b).tail) (d':={d with bs:=d.bs++[pE b]}) f rfl rfl rfl (fun s kk=>Az9 k hN j m n q hdemand e s kk)
def As2{d:Rd}{l:LineD}(v:fit 2000 N)(hN:1000000000<N)(q:d.bg=true)(x:A9 l.name=true)(y:l.name∉d.ls.map LineD.name)(A:d.ls.length<64)(hBn:(d.bs.map BusD.name).Nodup)(hBl:d.bs.length<=1000000)(s:0<=l.fr/\l.fr<(d.bs.length:Int))(t:0<=l.tl/\l.tl<(d.bs.length:Int))(u:Ks l.re)(f:Ks l.smin)(j:Ks l.smax)(e:An l.limit)(k:An l.emer)(m:∀ z∈l.away.l,An z)(n:(Ng (d.bs.map BusD.name) l).length<=2000000):Step N R d (Ng (d.bs.map BusD.name) l) {d with ls:=d.ls++[Z1 l]}:=gq (w:=Jm) (ws:=(Ng (d.bs.map BusD.name) l).tail) (d':={d with ls:=d.ls++[Z1 l]}) n rfl rfl rfl (fun C kk=>Ax0 v hN q x y A hBn hBl s t u f j e k m C kk)
def As3{d:Rd}{u:UnitD}(s:fit 2000 N)(hN:1000000000<N)(k:d.bg=true)(t:A9 u.name=true)(v:u.name∉d.us.map UnitD.name)(x:d.us.length<16)(hBn:(d.bs.map BusD.name).Nodup)(hBl:d.bs.length<=1000000)(f:0<=u.bus/\u.bus<(d.bs.length:Int))(y:∀ z∈fR u,An z)(e:∀ z∈u.away.l,An z)(m:u.state=0\/u.state=1\/u.state=2)(n:∀ g∈u.segs.l,An g.width/\An g.price)(q:u.segs.l.length<=1000000)(j:(Jd (d.bs.map BusD.name) u).length<=2000000):Step N R d (Jd (d.bs.map BusD.name) u) {d with us:=d.us++[U_ u]}:=gq (w:=I6) (ws:=(Jd (d.bs.map BusD.name) u).tail) (d':={d with us:=d.us++[U_ u]}) j rfl rfl rfl (fun A kk=>Ax1 s hN k t v x hBn hBl f y e m n q A kk)
def Aor{d:Rd}{u:StoreD}(m:fit 2000 N)(hN:1000000000<N)(l:d.bg=true)(n:A9 u.name=true)(q:u.name∉d.ss.map StoreD.name)(s:d.ss.length<8)(hBn:(d.bs.map BusD.name).Nodup)(hBl:d.bs.length<=1000000)(f:0<=u.bus/\u.bus<(d.bs.length:Int))(hcapacity:An u.capacity)(hinitial:An u.initial)(e:An u.final)(hcharge:An u.charge)(hdischarge:An u.discharge)(j:Ks u.eff)(k:(Fu (d.bs.map BusD.name) u).length<=2000000):Step N R d (Fu (d.bs.map BusD.name) u) {d with ss:=d.ss++[u]}:=gq (w:=F9) (ws:=(Fu (d.bs.map BusD.name) u).tail) (d':={d with ss:=d.ss++[u]}) k rfl rfl rfl (fun t kk=>Awa m hN l n q s hBn hBl f hcapacity hinitial e hcharge hdischarge j t kk)
def Awe{d:Rd}{t:TieD}(q:fit 2000 N)(hN:1000000000<N)(n:d.bg=true)(s:A9 t.name=true)(u:t.name∉d.ts.map TieD.name)(v:d.ts.length<8)(hBn:(d.bs.map BusD.name).Nodup)(hBl:d.bs.length<=1000000)(f:0<=t.bus/\t.bus<(d.bs.length:Int))(j:(t.imp.l.length:Int)=d.th/\t.imp.l.length<=1000/\∀ z∈t.imp.l,An z)(k:(t.exp.l.length:Int)=d.th/\t.exp.l.length<=1000/\∀ z∈t.exp.l,An z)(e:(t.price.l.length:Int)=d.th/\t.price.l.length<=1000/\∀ z∈t.price.l,An z)(m:(Uh (d.bs.map BusD.name) t).length<=2000000):Step N R d (Uh (d.bs.map BusD.name) t) {d with ts:=d.ts++[zL t]}:=gq (w:=Qh) (ws:=(Uh (d.bs.map BusD.name) t).tail) (d':={d with ts:=d.ts++[zL t]}) m rfl rfl rfl (fun x kk=>A0a q hN n s u v hBn hBl f j k e x kk)
def Ali{d:Rd}{o:OutD}(t:fit 2000 N)(hN:1000000000<N)(f:d.bg=true)(u:A9 o.name=true)(v:o.name∉d.os.map OutD.name)(x:d.os.length<64)(hUn:(d.us.map UnitD.name).Nodup)(hUl:d.us.length<=1000000)(hLn:(d.ls.map LineD.name).Nodup)(hLl:d.ls.length<=1000000)(hLk:B4∉d.ls.map LineD.name)(j:(o.corr||o.moves.l.isEmpty)=true)(k:∀ m∈o.moves.l,(0<=m.unit/\m.unit<(d.us.length:Int))/\An m.up/\An m.down)(n:o.moves.l.length<=1000000)(q:∀ i∈o.lines.l,0<=i/\i<(d.ls.length:Int))(s:o.lines.l.length<=1000000)(e:(Mx (d.ls.map LineD.name) (d.us.map UnitD.name) o).length<=2000000):Step N R d (Mx (d.ls.map LineD.name) (d.us.map UnitD.name) o) {d with os:=d.os++[gp o]}:=gq (w:=Dd) (ws:=(Mx (d.ls.map LineD.name) (d.us.map UnitD.name) o).tail) (d':={d with os:=d.os++[gp o]}) e rfl rfl rfl (fun y kk=>As0 t hN f u v x hUn hUl hLn hLl hLk j k n q s y kk)
def As4{d:Rd}{z:Int}{l:List Int}(f:fit 2000 N)(hN:1000000000<N)(e:d.bg=false)(j:1<=z)(m:z<=24)(n:(l.length:Int)=z)(q:∀ z∈l,An z):Step N R d ([Dc,tx z,D7]++l.map tx) {d with bg:=true,th:=z,rs:=l}:=fun _ _ _ _ _ _ _ _ _ _ _ s hr hs k=>Ax4 f hN e j m n q s hr hs fun x=>k _ _ _ _
inductive Says(N:Nat)(R:Type):List (List UInt8)->List (List Ap)->Prop
|nil:Says N R [] []
|skip {l:List UInt8} {L:List (List UInt8)} {W:List (List Ap)}:(10:UInt8)∉l->Qo N R l []->Says N R L W->Says N R (l::L) W
|stmt {l:List UInt8} {L:List (List UInt8)} {ws:List Ap} {W:List (List Ap)}:(10:UInt8)∉l->Qo N R l ws->Says N R L W->Says N R (l::L) (ws::W)
inductive Chain(N:Nat)(R:Type):Rd->List (List Ap)->Rd->Prop
|nil (d:Rd):Chain N R d [] d
|cons {d e d':Rd} {ws:List Ap} {W:List (List Ap)}:Step N R d ws e->Chain N R e W d'->Chain N R d (ws::W) d'
def Aya{L:List Lu}{W:List (List Ap)}(s:Says N R L W):∀{d d':Rd},Chain N R d W d'->Walk N R L d d':=by
 induction s with
|nil=>intro d d' c;cases c;exact .nil _
|skip e f _ j=>intro d d' c;exact .skip e f (j c)
|stmt e f _ j =>
  intro d d' c
  cases c with
  |cons st c=>exact .stmt e f st (j c)
def UY{d e d':Rd}{V W:List (List Ap)}(a:Chain N R d V e)(b:Chain N R e W d'):Chain N R d (V++W) d':=by
 induction a with
|nil=>exact b
|cons st _ f=>exact .cons st (f b)
def Xq{α:Type}{f:α->List Ap}{st:List α->Rd}:∀(l pre:List α),(∀ p a q,pre++l=p++a::q->pre.length<=p.length->Step N R (st p) (f a) (st (p++[a])))->Chain N R (st pre) (l.map f) (st (pre++l))
|[],pre,_=>by rw[A5h];exact .nil _
|a::l,pre,h=>by
  refine .cons (h pre a l rfl (A49 _)) ?_
  have:=Xq l (pre++[a]) fun p b q e d=>h p b q (by rw[<-e,A5e];rfl) (by simp at d;omega)
  rw[A5e]at this
  exact this
def js(c:CaseD)(l:Sl Int):Prop:=(l.l.length:Int)=c.hours/\∀ z∈l.l,An z
def QY(c:CaseD)(p:List BusD):Rd:=⟨true,c.hours,c.reserve.l,p.map pE,[],[],[],[],[]⟩
def fS{α:Type}{f:α->Ap}{re:α->α}(h:∀ a,f (re a)=f a)(l:List α):(l.map re).map f=l.map f:=by rw[A76];exact A72 fun a _=>h a
def KB{α:Type}{f:α->Ap}{l p q:List α}{a:α}(h:(l.map f).Nodup)(e:l=p++a::q):f a∉p.map f:=fun d=>by
 rw[e,A6t,A5c]at h
 exact(List.nodup_append.1 h).2.2 _ d _ (A6v ..) rfl
def As5{c:CaseD}(k:fit 2000 N)(hN:1000000000<N)(u:1<=c.hours/\c.hours<=24)(hn:(c.buses.l.map BusD.name).Nodup)(m:∀ b∈c.buses.l,A9 b.name=true/\js c b.demand/\An b.shed)(v:c.buses.l.length<=32):Chain N R (QY c []) (c.buses.l.map TC) (QY c c.buses.l):=by
 refine Xq c.buses.l [] fun p a q e _=>?_
 rw[A50]at e
 obtain⟨n,⟨w2,w3⟩,s⟩:=m a (by rw[e];simp)
 have j:p.length<c.buses.l.length:=by rw[e];simp
 have:=Awd (R:=R) (d:=QY c p) k hN rfl n (by show a.name∉(p.map pE).map BusD.name;rw[fS (f:=BusD.name) (re:=pE) (fun _=>rfl)];exact KB hn e) (by show(p.map pE).length<32;rw[A48];omega) ⟨w2,by omega,w3⟩ s (by simp[TC];omega)
 have t:QY c (p++[a])={QY c p with bs:=(QY c p).bs++[pE a]}:=by simp[QY]
 rw[t];exact this
def A5(c:CaseD)(p:List LineD):Rd:=⟨true,c.hours,c.reserve.l,c.buses.l.map pE,p.map Z1,[],[],[],[]⟩
def gr(c:CaseD):Prop:=(c.buses.l.map BusD.name).Nodup/\c.buses.l.length<=32
def fT(c:CaseD):(c.buses.l.map pE).map BusD.name=Bl c:=fS (f:=BusD.name) (re:=pE) (fun _=>rfl) c.buses.l
def Aos{c:CaseD}(n:fit 2000 N)(hN:1000000000<N)(hB:gr c)(hn:(c.lines.l.map LineD.name).Nodup)(s:∀ l∈c.lines.l,A9 l.name=true/\(0<=l.fr/\l.fr<(c.buses.l.length:Int))/\(0<=l.tl/\l.tl<(c.buses.l.length:Int))/\(Ks l.re/\Ks l.smin/\Ks l.smax)/\An l.limit/\An l.emer/\(∀ z∈l.away.l,An z)/\(Ng (Bl c) l).length<=2000000)(F:c.lines.l.length<=64):Chain N R (A5 c []) (c.lines.l.map (Ng (Bl c))) (A5 c c.lines.l):=by
 refine Xq c.lines.l [] fun p a q e _=>?_
 rw[A50]at e
 obtain⟨t,w2,w3,⟨u,v,x⟩,y,A,C,j⟩:=s a (by rw[e];simp)
 have m:p.length<c.lines.l.length:=by rw[e];simp
 have eb:(A5 c p).bs.map BusD.name=Bl c:=fT c
 have k:(A5 c p).bs.length=c.buses.l.length:=A48 _
 have:=As2 (R:=R) (d:=A5 c p) n hN rfl t (by show a.name∉(p.map Z1).map LineD.name;rw[fS (f:=LineD.name) (re:=Z1) (fun _=>rfl)];exact KB hn e) (by show(p.map Z1).length<64;rw[A48];omega) (by rw[eb];exact hB.1) (by rw[k];have:=hB.2;omega) (by rw[k];exact w2) (by rw[k];exact w3) u v x y A C (by rw[eb];exact j)
 rw[eb]at this
 have D:A5 c (p++[a])={A5 c p with ls:=(A5 c p).ls++[Z1 a]}:=by simp[A5]
 rw[D];exact this
def Awf(c:CaseD):(c.lines.l.map Z1).map LineD.name=Ce c:=fS (f:=LineD.name) (re:=Z1) (fun _=>rfl) c.lines.l
def Awg(c:CaseD):(c.units.l.map U_).map UnitD.name=Bw c:=fS (f:=UnitD.name) (re:=U_) (fun _=>rfl) c.units.l
def Aws(c:CaseD)(p:List UnitD):Rd:=⟨true,c.hours,c.reserve.l,c.buses.l.map pE,c.lines.l.map Z1,p.map U_,[],[],[]⟩
def Aot{c:CaseD}(m:fit 2000 N)(hN:1000000000<N)(hB:gr c)(hn:(c.units.l.map UnitD.name).Nodup)(n:∀ u∈c.units.l,A9 u.name=true/\(0<=u.bus/\u.bus<(c.buses.l.length:Int))/\(∀ z∈fR u,An z)/\(∀ z∈u.away.l,An z)/\(u.state=0\/u.state=1\/u.state=2)/\(∀ g∈u.segs.l,An g.width/\An g.price)/\u.segs.l.length<=1000000/\(Jd (Bl c) u).length<=2000000)(D:c.units.l.length<=16):Chain N R (Aws c []) (c.units.l.map (Jd (Bl c))) (Aws c c.units.l):=by
 refine Xq c.units.l [] fun p a q e _=>?_
 rw[A50]at e
 obtain⟨s,w2,w3,t,v,x,y,A⟩:=n a (by rw[e];simp)
 have j:p.length<c.units.l.length:=by rw[e];simp
 have eb:(Aws c p).bs.map BusD.name=Bl c:=fT c
 have k:(Aws c p).bs.length=c.buses.l.length:=A48 _
 skip
 have:=As3 (R:=R) (d:=Aws c p) m hN rfl s (by show a.name∉(p.map U_).map UnitD.name;rw[fS (f:=UnitD.name) (re:=U_) (fun _=>rfl)];exact KB hn e) (by show(p.map U_).length<16;rw[A48];omega) (by rw[eb];exact hB.1) (by rw[k];have:=hB.2;omega) (by rw[k];exact w2) w3 t v x y (by rw[eb];exact A)
 rw[eb]at this
 have C:Aws c (p++[a])={Aws c p with us:=(Aws c p).us++[U_ a]}:=by simp[Aws]
 rw[C];exact this
def Gv(c:CaseD)(p:List StoreD):Rd:=⟨true,c.hours,c.reserve.l,c.buses.l.map pE,c.lines.l.map Z1,c.units.l.map U_,p,[],[]⟩
def Alj{c:CaseD}(k:fit 2000 N)(hN:1000000000<N)(hB:gr c)(hn:(c.stores.l.map StoreD.name).Nodup)(m:∀ u∈c.stores.l,A9 u.name=true/\(0<=u.bus/\u.bus<(c.buses.l.length:Int))/\An u.capacity/\An u.initial/\An u.final/\An u.charge/\An u.discharge/\Ks u.eff/\(Fu (Bl c) u).length<=2000000)(C:c.stores.l.length<=8):Chain N R (Gv c []) (c.stores.l.map (Fu (Bl c))) (Gv c c.stores.l):=by
 refine Xq c.stores.l [] fun p a q e _=>?_
 rw[A50]at e
 obtain⟨n,w2,w3,s,t,v,x,y,z⟩:=m a (by rw[e];simp)
 have f:p.length<c.stores.l.length:=by rw[e];simp
 have eb:(Gv c p).bs.map BusD.name=Bl c:=fT c
 have j:(Gv c p).bs.length=c.buses.l.length:=A48 _
 skip
 have:=Aor (R:=R) (d:=Gv c p) k hN rfl n (by show a.name∉p.map StoreD.name;exact KB hn e) (by show p.length<8;omega) (by rw[eb];exact hB.1) (by rw[j];have:=hB.2;omega) (by rw[j];exact w2) w3 s t v x y (by rw[eb];exact z)
 rw[eb]at this
 have A:Gv c (p++[a])={Gv c p with ss:=(Gv c p).ss++[a]}:=by simp[Gv]
 rw[A];exact this
def Awt(c:CaseD)(p:List TieD):Rd:=⟨true,c.hours,c.reserve.l,c.buses.l.map pE,c.lines.l.map Z1,c.units.l.map U_,c.stores.l,p.map zL,[]⟩
def As6{c:CaseD}(s:fit 2000 N)(hN:1000000000<N)(hB:gr c)(z:1<=c.hours/\c.hours<=24)(hn:(c.ties.l.map TieD.name).Nodup)(u:∀ t∈c.ties.l,A9 t.name=true/\(0<=t.bus/\t.bus<(c.buses.l.length:Int))/\js c t.imp/\js c t.exp/\js c t.price/\(Uh (Bl c) t).length<=2000000)(A:c.ties.l.length<=8):Chain N R (Awt c []) (c.ties.l.map (Uh (Bl c))) (Awt c c.ties.l):=by
 refine Xq c.ties.l [] fun p a q e _=>?_
 rw[A50]at e
 obtain⟨v,w2,w3,j,k,x⟩:=u a (by rw[e];simp)
 have m:p.length<c.ties.l.length:=by rw[e];simp
 have eb:(Awt c p).bs.map BusD.name=Bl c:=fT c
 have n:(Awt c p).bs.length=c.buses.l.length:=A48 _
 skip
 have:=Awe (R:=R) (d:=Awt c p) s hN rfl v (by show a.name∉(p.map zL).map TieD.name;rw[fS (f:=TieD.name) (re:=zL) (fun _=>rfl)];exact KB hn e) (by show(p.map zL).length<8;rw[A48];omega) (by rw[eb];exact hB.1) (by rw[n];have:=hB.2;omega) (by rw[n];exact w2) ⟨w3.1,by have:=w3.1;omega,w3.2⟩ ⟨j.1,by have:=j.1;omega,j.2⟩ ⟨k.1,by have:=k.1;omega,k.2⟩ (by rw[eb];exact x)
 rw[eb]at this
 have y:Awt c (p++[a])={Awt c p with ts:=(Awt c p).ts++[zL a]}:=by simp[Awt]
 rw[y];exact this
def Aou(c:CaseD)(p:List OutD):Rd:=⟨true,c.hours,c.reserve.l,c.buses.l.map pE,c.lines.l.map Z1,c.units.l.map U_,c.stores.l,c.ties.l.map zL,p.map gp⟩
def Agz{c:CaseD}(k:fit 2000 N)(hN:1000000000<N)(hB:gr c)(hU:(Bw c).Nodup/\c.units.l.length<=16)(hL:(Ce c).Nodup/\c.lines.l.length<=64/\B4∉Ce c)(hn:(c.outs.l.map OutD.name).Nodup)(n:∀ o∈c.outs.l,A9 o.name=true/\(o.corr||o.moves.l.isEmpty)=true/\(∀ m∈o.moves.l,(0<=m.unit/\m.unit<(c.units.l.length:Int))/\An m.up/\An m.down)/\o.moves.l.length<=1000000/\(∀ i∈o.lines.l,0<=i/\i<(c.lines.l.length:Int))/\o.lines.l.length<=1000000/\(Mx (Ce c) (Bw c) o).length<=2000000)(z:c.outs.l.length<=64):Chain N R (Aou c []) (c.outs.l.map (Mx (Ce c) (Bw c))) (Aou c c.outs.l):=by
 refine Xq c.outs.l [] fun p a q e _=>?_
 rw[A50]at e
 obtain⟨s,w2,w3,t,u,v,x⟩:=n a (by rw[e];simp)
 have j:p.length<c.outs.l.length:=by rw[e];simp
 have eb:(Aou c p).bs.map BusD.name=Bl c:=fT c
 have A:(Aou c p).bs.length=c.buses.l.length:=A48 _
 have eu:(Aou c p).us.map UnitD.name=Bw c:=Awg c
 have eL:(Aou c p).ls.map LineD.name=Ce c:=Awf c
 have eul:(Aou c p).us.length=c.units.l.length:=A48 _
 have ell:(Aou c p).ls.length=c.lines.l.length:=A48 _
 have:=Ali (R:=R) (d:=Aou c p) k hN rfl s (by show a.name∉(p.map gp).map OutD.name;rw[fS (f:=OutD.name) (re:=gp) (fun _=>rfl)];exact KB hn e) (by show(p.map gp).length<64;rw[A48];omega) (by rw[eu];exact hU.1) (by rw[eul];have:=hU.2;omega) (by rw[eL];exact hL.1) (by rw[ell];have:=hL.2.1;omega) (by rw[eL];exact hL.2.2) w2 (by rw[eul];exact w3) t (by rw[ell];exact u) v (by rw[eL,eu];exact x)
 rw[eL,eu]at this
 have y:Aou c (p++[a])={Aou c p with os:=(Aou c p).os++[gp a]}:=by simp[Aou]
 rw[y];exact this
structure GoodC(c:CaseD):Prop where
 hh:1<=c.hours/\c.hours<=24
 hr:js c c.reserve
 hB:gr c
 hL:(Ce c).Nodup/\c.lines.l.length<=64/\B4∉Ce c
 hU:(Bw c).Nodup/\c.units.l.length<=16
 hS:(Xd c).Nodup/\c.stores.l.length<=8
 hT:(kQ c).Nodup/\c.ties.l.length<=8
 hO:(kR c).Nodup/\c.outs.l.length<=64
 gB:∀ b∈c.buses.l,A9 b.name=true/\js c b.demand/\An b.shed
 gL:∀ l∈c.lines.l,A9 l.name=true/\(0<=l.fr/\l.fr<(c.buses.l.length:Int))/\(0<=l.tl/\l.tl<(c.buses.l.length:Int))/\(Ks l.re/\Ks l.smin/\Ks l.smax)/\An l.limit/\An l.emer/\(∀ z∈l.away.l,An z)/\(Ng (Bl c) l).length<=2000000
 gU:∀ u∈c.units.l,A9 u.name=true/\(0<=u.bus/\u.bus<(c.buses.l.length:Int))/\(∀ z∈fR u,An z)/\(∀ z∈u.away.l,An z)/\(u.state=0\/u.state=1\/u.state=2)/\(∀ g∈u.segs.l,An g.width/\An g.price)/\u.segs.l.length<=1000000/\(Jd (Bl c) u).length<=2000000
 gS:∀ u∈c.stores.l,A9 u.name=true/\(0<=u.bus/\u.bus<(c.buses.l.length:Int))/\An u.capacity/\An u.initial/\An u.final/\An u.charge/\An u.discharge/\Ks u.eff/\(Fu (Bl c) u).length<=2000000
 gT:∀ t∈c.ties.l,A9 t.name=true/\(0<=t.bus/\t.bus<(c.buses.l.length:Int))/\js c t.imp/\js c t.exp/\js c t.price/\(Uh (Bl c) t).length<=2000000
 gO:∀ o∈c.outs.l,A9 o.name=true/\(o.corr||o.moves.l.isEmpty)=true/\(∀ m∈o.moves.l,(0<=m.unit/\m.unit<(c.units.l.length:Int))/\An m.up/\An m.down)/\o.moves.l.length<=1000000/\(∀ i∈o.lines.l,0<=i/\i<(c.lines.l.length:Int))/\o.lines.l.length<=1000000/\(Mx (Ce c) (Bw c) o).length<=2000000
def A3u:Rd:=⟨false,0,[],[],[],[],[],[],[]⟩
def A0s(c:CaseD):CaseD:=⟨c.hours,jr c.reserve,.of (c.buses.l.map pE) false false,.of (c.lines.l.map Z1) false false,.of (c.units.l.map U_) false false,.of c.stores.l false false,.of (c.ties.l.map zL) false false,.of (c.outs.l.map gp) false false⟩
def As7{c:CaseD}(f:fit 2000 N)(hN:1000000000<N)(g:GoodC c):Chain N R A3u (EI c) (Aou c c.outs.l):=by
 refine .cons (e:=QY c []) (As4 (R:=R) (d:=A3u) f hN rfl g.hh.1 g.hh.2 g.hr.1 g.hr.2) ?_
 refine UY (As5 f hN g.hh g.hB.1 g.gB g.hB.2) ?_
 refine UY (e:=A5 c c.lines.l) (Aos f hN g.hB g.hL.1 g.gL g.hL.2.1) ?_
 refine UY (e:=Aws c c.units.l) (Aot f hN g.hB g.hU.1 g.gU g.hU.2) ?_
 refine UY (e:=Gv c c.stores.l) (Alj f hN g.hB g.hS.1 g.gS g.hS.2) ?_
 refine UY (e:=Awt c c.ties.l) (As6 f hN g.hB g.hh g.hT.1 g.gT g.hT.2) ?_
 exact Agz f hN g.hB g.hU g.hL g.hO.1 g.gO g.hO.2
def UZ{α:Type}{e:α->LA}{sz:Nat}(d:∀ a,(e a).length=sz)(l:List α):(AV.imm (take (l.length*sz) (l.flatMap e)) l.length sz false false)=Sl.av sz e (.of l false false):=by rw[A44 (by rw[FQ d];exact A49 _)];rfl
def Ayb{c:CaseD}{K:LA->Int->Int->O R}{fuel:Nat}{rem:Lu}{u:Int}{nw:Nat}{nx:Int}{cw:LA}:pq N K (Aou c c.outs.l) (fuel+1) rem u false nw nx cw=K (A0s c).av 0 0:=by
 unfold pq
 rw[Mj];unfold Uu
 rw[cf]
 rw[FV,UZ Kj,UZ D9,UZ Gw,UZ I8,UZ Hf,UZ Ip]
 rfl
def Awh{c:CaseD}{L:List Lu}{e:Lu}{K:LA->Int->Int->O R}(j:fit 2000 N)(hN:1000000000<N)(g:GoodC c)(s:Says N R L (EI c))(f:(10:UInt8)∉e)(d:Qo N R e [])(k:(txt L e).length<=1048576):NC N (txt L e) K=K (A0s c).av 0 0:=by
 rw[oJ];unfold gQ
 rw[show decide ((((txt L e).length:Nat):Int)>1048576)=false from decide_eq_false (by omega),cf]
 show pq N K A3u N (txt L e) 0 true 0 0 []=_
 have hL:=Aqh L e
 obtain⟨n,hn⟩:∃ n,N=(n+1+1)+L.length:=⟨N - L.length - 2,by omega⟩
 have main:=Awc (R:=R) (N:=N) (K:=K) (e:=e) (Aya s (As7 j hN g)) (fuel:=n+1+1) (u:=0) (nw:=0) (nx:=0) (cw:=[]) (Y:=K (A0s c).av 0 0) (by omega) fun t m x q =>
  Alg (Ax9 f) (by
   have:e.length<=(txt L e).length:=by
    clear hL hn k d f s
    induction L with
    |nil=>exact A49 _
    |cons l L v=>rw[txt,A41,A42];omega
   omega) d Ayb
 rw[<-hn]at main
 exact main
end
end Gx.Ct
namespace Gx.Ct
open Go Go.Proofs Gx.Cf
def Aov{z:Int}(h:Vj z=false):An z:=by unfold Vj at h;simp only[A6p,decide_eq_false_iff_not]at h;unfold An;omega
def vE{f:FracD}(h:Fo f=false):Ks f:=by
 unfold Fo at h;simp only[A6p,decide_eq_false_iff_not]at h
 have:=Aov h.1;unfold Ks An at *;omega
def RY{α:Type}{p:α->Bool}{l:List α}(h:l.any p=false):∀ x∈l,p x=false:=fun x hx=>by rw[A7u]at h;simpa using h x hx
def DW{l:List Int}(h:Ar l=false):∀ z∈l,An z:=fun z d=>Aov (RY h z d)
def Alk:∀(r seen:List Ap),D8 seen r=false->r.Nodup/\∀ w∈r,w∉seen
|[],_,_=>⟨.nil,fun _ h=>by cases h⟩
|w::r,seen,h=>by
  rw[D8,A6p]at h
  obtain⟨f,e⟩:=Alk r _ h.2
  have hs:w∉seen:=by simpa using h.1
  refine⟨A6f.2 ⟨fun d=>e w d (by simp),f⟩,fun x hx=>?_⟩
  rcases A5b.1 hx with rfl|hx
  ·exact hs
  ·exact fun d=>e x hx (by simp[d])
def All:∀ r:List Ap,(∀ w∈r,w≠[])->2*r.length<=(r.flatMap (32::·)).length
|[],_=>by simp
|w::r,h=>by
  have:=All r fun x hx=>h x (by simp[hx])
  have d:w.length≠0:=fun e=>h w (by simp) (A7g.1 e)
  rw[A5r,A41,A42,A42];omega
def Awi{ws:List Ap}(h:Aep ws):2*ws.length<=(Dg ws).length:=by
 obtain⟨w,r,rfl,d,f⟩:=h
 have:=All r fun x hx=>(f x hx).1
 have j:w.length≠0:=fun e=>d.1 (A7g.1 e)
 rw[Dg,Gl,A41,A41,A42,A5w];omega
def Ayc{W:List (List Ap)}{ws:List Ap}(h:ws∈W):(Dg ws).length<=(W.flatMap Dg).length:=by
 obtain⟨a,b,rfl⟩:=A98 h
 rw[A6n,A5r,A41,A41];omega
def Awj{s:Ap}(h:A9 s=true):s≠B4:=fun e=>by rw[e]at h;revert h;decide
structure Acc(c:CaseD):Prop where
 i:CaseI 20000000000000 c
 n:F4 c=true
 h:1<=c.hours/\c.hours<=24
 s:Wq c=true
 nm:∀ l∈B5 c,(∀ s∈l,A9 s=true)/\l.Nodup
 k:Kf c=true
 m:Fp c=true
 b:Hd c=false
 l:(Nh c).length<=1048576
def A0d {c:CaseD} (hI:CaseI 20000000000000 c) (h:Vk c=0):Acc c:=by
 unfold Vk at h
 split at h
 ·cases h
 ·split at h
  ·cases h
  ·split at h
   ·cases h
   ·split at h
    ·exact absurd h (by assumption)
    ·split at h
     ·cases h
     ·split at h
      ·cases h
      ·split at h
       ·cases h
       ·split at h
        ·cases h
        ·rename_i k v m n q s t x
         have d:I7 c=0:=A8x n
         unfold I7 at d
         split at d
         ·rename_i f
          split at d
          ·cases d
          ·rename_i u
           simp only[A5n]at f
           have e:=RY (Bool.eq_false_iff.2 u)
           exact⟨hI,by simpa using k,by omega,by simpa using m,fun l j=>⟨f l j,(Alk l [] (e l j)).1⟩,by simpa using q,by simpa using s,by simpa using t,by omega⟩
         ·cases d
def Awk{c:CaseD}(h:Acc c):Vk c=0:=by
 have f:I7 c=0:=by
  unfold I7
  rw[if_pos (by simp only[A5n];exact fun l d=>(h.nm l d).1),if_neg]
  rw[Bool.not_eq_true,A7u]
  intro l d
  have key:∀(r seen:List Ap),r.Nodup->(∀ w∈r,w∉seen)->D8 seen r=false:=by
   intro r
   induction r with
   |nil=>intro _ _ _;rfl
   | cons w r j =>
    intro seen hn hs
    rw[A6f]at hn
    rw[D8,j (seen++[w]) hn.2 fun x hx e=>by
     rcases A5d.1 e with q|q
     ·exact hs x (by simp[hx]) q
     ·rw[A61.1 q] at hx;exact hn.1 hx]
    have:=hs w (by simp)
    simpa using this
  rw[key l [] (h.nm l d).2 fun _ _ e=>by cases e];decide
 have:=h.h
 unfold Vk
 rw[if_neg (by rw[h.n];decide),if_neg (by omega),if_neg (by rw[h.s];decide),if_neg (by rw[f];decide),if_neg (by rw[h.k];decide),if_neg (by rw[h.m];decide),if_neg (by rw[h.b];decide),if_neg (by have:=h.l;omega)]
def fU{i:Int}{n:Nat}(h:El i n=true):0<=i/\i<(n:Int):=by unfold El at h;simpa using h
def Awl{c:CaseD}(a:Acc c):GoodC c:=by
 have v:=a.k;have hs:=a.s;have hn:=a.n;have x:=a.b;have f:=a.m
 unfold Kf at v;unfold Wq at hs;unfold F4 at hn;unfold Hd at x;unfold Fp at f
 simp only[A47,A5n,decide_eq_true_eq,A6p]at v hs hn x
 rw[A5n]at f
 obtain⟨S,k2,X,k4,T⟩:=v
 obtain⟨s1,s2,s3⟩:=hs
 obtain⟨n1,n2,n3,n4,n5,n6⟩:=hn
 obtain⟨b0,Y,b2,b3,b4,b5,b6,b7⟩:=x
 have hN:∀ l∈B5 c,(∀ s∈l,A9 s=true)/\l.Nodup:=a.nm
 have pB:=hN (Bl c) (by simp[B5])
 have pL:=hN (Ce c) (by simp[B5])
 have pU:=hN (Bw c) (by simp[B5])
 have pS:=hN (Xd c) (by simp[B5])
 have pT:=hN (kQ c) (by simp[B5])
 have pO:=hN (kR c) (by simp[B5])
 have sh:∀{l:Sl Int},EJ c l=true->Ar l.l=false->js c l:=fun y U=>⟨by unfold EJ at y;simpa using y,DW U⟩
 have len:∀ ws∈EI c,ws.length<=524288:=fun ws V=>by
  have y:=Awi ((Passed.mk a.i Ak5 (fun l hl=>(hN l hl).1) a.k).lines ws V)
  have U:=Ayc V
  have h3:=a.l
  unfold Nh at h3
  omega
 refine⟨a.h,sh s1 Y,⟨pB.2,n1⟩,⟨pL.2,n2,fun h=>Awj (pL.1 _ h) rfl⟩,⟨pU.2,n3⟩,⟨pS.2,n4⟩,⟨pT.2,n5⟩,⟨pO.2,n6⟩,fun b h=>?_,fun l h=>?_,fun u h=>?_,fun u h=>?_,fun t h=>?_,fun o h=>?_⟩
 ·have q:=RY b2 b h
  unfold RC at q
  rw[A6p]at q
  exact⟨pB.1 _ (A6y h),sh (s2 b h) q.1,Aov q.2⟩
 ·have q:=RY b3 l h
  unfold Ui at q
  simp only[A6p]at q
  obtain⟨d,A,C,D,F⟩:=q
  have j:=DW D
  refine⟨pL.1 _ (A6y h),fU (S l h).1,fU (S l h).2,⟨vE d,vE A,vE C⟩,j _ (by simp),j _ (by simp),DW F,?_⟩
  have:=len (Ng (Bl c) l) (by unfold EI;simp only[A5b,A5d];exact .inr (.inr (.inl (A6y h))))
  omega
 ·have q:=RY b4 u h
  unfold Nm at q
  simp only[A6p]at q
  obtain⟨d,A,C,D,F⟩:=q
  have G:=DW d;have I:=DW C;have L:=DW F
  have ln:=len (Jd (Bl c) u) (by unfold EI;simp only[A5b,A5d];exact .inr (.inr (.inr (.inl (A6y h)))))
  have sl:u.segs.l.length<=(Jd (Bl c) u).length:=by
   have e:(u.segs.l.flatMap aJ).length=u.segs.l.length*2:=by
    induction u.segs.l with
    |nil=>rfl
    |cons a r M=>rw[A5r,A41,M,A42];show 2+_=_;omega
   unfold Jd;simp only[A41,e];omega
  refine⟨pU.1 _ (A6y h),fU (k2 u h).1,fun z hz=>?_,DW D,?_,fun g hg=>?_,by omega,by omega⟩
  ·rcases A5d.1 (show z∈[u.min,u.max]++([u.noLoad,u.rampUp,u.rampDown,u.startRamp,u.stopRamp,u.upTime,u.downTime,u.startTime,u.hotCost,u.coldCost,u.hotHours,u.reserve,u.reservePrice]++[u.hours,u.output])from hz)with q|q
   ·exact G z q
   ·rcases A5d.1 q with q|q
    ·exact I z q
    ·exact L z q
  ·have:=fU (k2 u h).2;omega
  ·have:=DW (RY A g hg)
   exact⟨this _ (by simp),this _ (by simp)⟩
 ·have q:=RY b5 u h
  unfold Je at q
  rw[A6p]at q
  have d:=DW q.1
  have ln:=len (Fu (Bl c) u) (by unfold EI;simp only[A5b,A5d];exact .inr (.inr (.inr (.inr (.inl (A6y h))))))
  exact⟨pS.1 _ (A6y h),fU (X u h),d _ (by simp),d _ (by simp),d _ (by simp),d _ (by simp),d _ (by simp),vE q.2,by omega⟩
 ·have q:=RY b6 t h
  unfold Rc at q
  simp only[A6p]at q
  have ln:=len (Uh (Bl c) t) (by unfold EI;simp only[A5b,A5d];exact .inr (.inr (.inr (.inr (.inr (.inl (A6y h)))))))
  have s:=s3 t h
  exact⟨pT.1 _ (A6y h),fU (k4 t h),sh s.1 q.1,sh s.2.1 q.2.1,sh s.2.2 q.2.2,by omega⟩
 ·have q:=RY b7 o h
  unfold Im at q
  have ln:=len (Mx (Ce c) (Bw c) o) (by unfold EI;simp only[A5b,A5d];exact .inr (.inr (.inr (.inr (.inr (.inr (A6y h)))))))
  have ml:o.moves.l.length<=(Mx (Ce c) (Bw c) o).length/\o.lines.l.length<=(Mx (Ce c) (Bw c) o).length:=by
   have e:(o.moves.l.flatMap (Ta (Bw c))).length=o.moves.l.length*3:=by
    induction o.moves.l with
    |nil=>rfl
    |cons a r M=>rw[A5r,A41,M,A42];show 3+_=_;omega
   unfold Mx;simp only[A41,e,A48];omega
  refine⟨pO.1 _ (A6y h),f o h,fun m f=>?_,by omega,fun i hi=>fU ((T o h).1 i hi),by omega,by omega⟩
  have:=DW (RY q m f)
  exact⟨fU ((T o h).2 m f),this _ (by simp),this _ (by simp)⟩
end Gx.Ct
namespace Gx.Ct
open Go Go.Proofs Gx.Cf
def Ag0{c:UInt8}(h:45<=c.toNat/\c.toNat<=122):Aa2 c=false/\c≠10/\c≠35/\c.toNat<128:=by
 have ne:∀ k:UInt8,k.toNat<45->c≠k:=fun k d e=>by rw[e]at h;omega
 refine⟨?_,ne 10 (by decide),ne 35 (by decide),by omega⟩
 unfold Aa2
 rw[beq_eq_false_iff_ne.2 (ne 32 (by decide)),beq_eq_false_iff_ne.2 (ne 9 (by decide)),beq_eq_false_iff_ne.2 (ne 13 (by decide))];rfl
def wIn(w:Ap):Prop:=w≠[]/\∀ c∈w,45<=c.toNat/\c.toNat<=122
def wIn.ok{w:Ap}(h:wIn w):A3t w:=⟨h.1,fun c d=>Ag0 (h.2 c d)⟩
def A0e (n:Nat):wIn (dec n):=⟨lX n,fun c d=>by
 have:=A5n.1 (US n) c d
 unfold D4 at this
 simp only[A47,decide_eq_true_eq]at this
 omega⟩
def wIn.cons {c:UInt8} {w:Ap} (h:45<=c.toNat/\c.toNat<=122) (d:∀ c ∈ w,45<=c.toNat/\c.toNat<=122):wIn (c::w):=⟨by simp,fun x hx=>by
 rcases A5b.1 hx with rfl|hx
 ·exact h
 ·exact d x hx⟩
def Awm(z:Int):wIn (tx z):=by
 rw[Zz];unfold yq Ak3
 have d:=A0e z.natAbs
 split
 ·exact .cons (by decide) d.2
 ·exact d
def Ayd(f:FracD):wIn (H6 f):=by
 have e:=Awm f.num
 have j:=Awm f.den
 refine⟨by unfold H6;simp,fun c d=>?_⟩
 unfold H6 at d
 rcases A5d.1 d with h|h
 ·exact e.2 c h
 ·rcases A5b.1 h with rfl|h
  ·decide
  ·exact j.2 c h
def A1l{w:Ap}(h:A0o w=true):wIn w:=by
 unfold A0o at h
 simp only[A47,decide_eq_true_eq,A5n]at h
 refine⟨h.1,fun c d=>?_⟩
 have:=h.2.2 c d
 unfold WE at this
 simp only[A47,decide_eq_true_eq]at this
 omega
def Aye{s:Ap}(h:A9 s=true):wIn s:=by
 unfold A9 at h
 simp only[A47,decide_eq_true_eq,A5n]at h
 obtain⟨d,_,_,_,f⟩:=h
 refine⟨fun e=>by rw[e]at d;simp at d,fun c j=>?_⟩
 have:=f c j
 unfold Aq7 WE at this
 simp only[A47,A8o,decide_eq_true_eq]at this
 omega
def A0f{c:CaseD}(a:Acc c):∀ ws∈EI c,ws≠[]/\∀ x∈ws,wIn x:=wa a.i (fun z _=>Awm z) (fun f _ _=>Ayd f) (fun _ h=>A1l h) (fun l d s hs=>Aye ((a.nm l d).1 s hs)) a.k
def Aqi:∀(l:List Ap)(w:Ap),(∀ x∈w::l,A3t x)->fw (w++l.flatMap (32::·)) []=w::l
|[],w,h=>by
  have d:=h w (by simp)
  rw[A69,Agy w [] [] fun c e=>(d.2 c e).1,A50,fw,if_neg d.1]
|v::r,w,h=>by
  have f:=Aqi r v fun x hx=>h x (A5x _ hx)
  have d:=h w (by simp)
  rw[A5r,A5i]
  exact(Ax8 (s:=[32]) (r:=v++r.flatMap (32::·)) d (by simp) (by decide)).trans (by rw[f])
def A0g{s:Lu}(h:∀ c∈s,c≠35):As1 s=s:=by
 have:=Aqf s [] h
 rw[A5h,As1,A5h]at this
 exact this
section
variable{R:Type}{N:Nat}
def Aqj{ws:List Ap}(e:∀ x∈ws,wIn x):∀ c∈ZK ws,c≠10/\c≠35/\c.toNat<128:=by
 have sp:∀ l:List Ap,(∀ x∈l,wIn x)->∀ c∈l.flatMap (32::·),c≠10/\c≠35/\c.toNat<128:=fun l f c d=>by
  obtain⟨x,hx,d⟩:=A74.1 d
  rcases A5b.1 d with rfl|d
  ·decide
  ·exact(Ag0 ((f x hx).2 c d)).2
 cases ws with
|nil=>intro c d;cases d
|cons w r =>
  intro c d
  rw[Gl]at d
  rcases A5d.1 d with h|h
  ·exact(Ag0 ((e w (by simp)).2 c h)).2
  ·exact sp r (fun x hx=>e x (by simp[hx])) c h
def Aow{ws:List Ap}(hN:1000000000<N)(f:ws≠[])(d:∀ x∈ws,wIn x)(j:(ZK ws).length<=1048576):Qo N R (ZK ws) ws:=by
 have e:=Aqj d
 have:=Alh (R:=R) (N:=N) (fun c h=>(e c h).2.2) j hN
 rw[A0g fun c h=>(e c h).2.1]at this
 cases ws with
|nil=>exact absurd rfl f
|cons w r=>rw[Gl]at this ⊢;rw[Aqi r w fun x hx=>(d x hx).ok]at this;exact this
def Ac3(hN:1000000000<N):∀ W:List (List Ap),(∀ ws∈W,ws≠[]/\∀ x∈ws,wIn x)->(W.flatMap Dg).length<=1048576->Says N R (W.map ZK) W
|[],_,_=>.nil
|ws::W,h,e=>by
  rw[A5r,A41]at e
  obtain⟨f,d⟩:=h ws (by simp)
  have k:(ZK ws).length<=(Dg ws).length:=by unfold Dg;rw[A41];omega
  exact .stmt (fun j=>(Aqj d 10 j).1 rfl) (Aow hN f d (by omega)) (Ac3 hN W (fun x hx=>h x (by simp[hx])) (by omega))
def yy:∀ W:List (List Ap),txt (W.map ZK) []=W.flatMap Dg
|[]=>rfl
|ws::W=>by rw[A5c,txt,yy W,A5r];unfold Dg;simp
def Aox(hN:1000000000<N):Qo N R [] []:=Alh (s:=[]) (fun _ h=>by cases h) (by decide) hN
def Aoy{c:CaseD}{K:LA->Int->Int->O R}(d:fit 2000 N)(hN:1000000000<N)(a:Acc c):NC N (Nh c) K=K (A0s c).av 0 0:=by
 have s:=Ac3 (R:=R) hN (EI c) (A0f a) a.l
 have:=Awh (K:=K) d hN (Awl a) s (e:=[]) (by simp) (Aox hN) (by rw[yy];exact a.l)
 rw[yy]at this
 exact this
end
end Gx.Ct
namespace Gx.Ct
open Go Go.Proofs Gx.Cf
section
variable{R:Type}{N:Nat}
def U9{l:List Int}{f g h i:Bool}{K:Bool->O R}(s:l.length<=20000000000000)(hN:20000000000000<N):Mk N (l.flatMap D5) l.length f g (l.flatMap D5) l.length h i K=K true:=by
 rw[oK];unfold gR
 rw[bne_self_eq_false,cf]
 have run:∀(m j fuel:Nat),j+m=l.length->m<fuel->Tl N K (l.flatMap D5) l.length f g (l.flatMap D5) l.length h i fuel (j:Int)=K true:=by
  intro m
  induction m with
  |zero =>
   intro j fuel d n
   obtain⟨fuel,rfl⟩:∃ k,fuel=k+1:=⟨fuel - 1,by omega⟩
   rw[Tl];unfold IW
   rw[Fk (by omega),cf]
  |succ m q =>
   intro j fuel d n
   obtain⟨fuel,rfl⟩:∃ k,fuel=k+1:=⟨fuel - 1,by omega⟩
   have h':j<l.length:=by omega
   rw[Tl];unfold IW
   rw[Er h',ct,Aa h',ct,aD (e:=D5) (sz:=1) (fun _=>rfl) h']
   show cond (l[j] != l[j]) _ _=_
   rw[bne_self_eq_false,cf,Q8 (by omega)]
   exact q (j+1) fuel (by omega) (by omega)
 exact run l.length 0 N (by omega) (by omega)
def Z0{n:Nat}{q:Nat->Bool->Int->O R}{K:Bool->O R}(hn:n<=20000000000000)
  (d:∀ fuel,q (fuel+1) true (n:Int)=K true) (e:∀ fuel j,j<n->q (fuel+1) true (j:Int)=q fuel true (wrap .i64 ((j:Int)+1))):∀(m j fuel:Nat),j+m=n->m<fuel->q fuel true (j:Int)=K true
|0,j,fuel+1,f,_=>by
  obtain rfl:j=n:=by omega
  exact d fuel
|m+1,j,fuel+1,f,k=>by
  rw[e fuel j (by omega),Q8 (by omega)]
  exact Z0 hn d e m (j+1) fuel (by omega) (by omega)
def A1v{α:Type}{e:α->LA}{re:α->α}{sz:Nat}(d:∀ a,(e a).length=sz){l:List α}{j:Nat}(h:j<l.length):take sz (drop (Int.toNat (j:Int)*sz) ((l.map re).flatMap e))=e (re l[j]):=by rw[Bp d (by rw[A48];exact h),A8i]
def Aau{α:Type}{e:α->LA}{re:α->α}{sz:Nat}(d:∀ a,(e a).length=sz){l:List α}{j:Nat}(h:j<l.length):ble sz (drop (Int.toNat (j:Int)*sz) ((l.map re).flatMap e)).length=true:=Cd d (by rw[A48];exact h)
def A1m{α:Type}{e:α->LA}{re:α->α}{sz:Nat}(d:∀ a,(e a).length=sz){l:List α}{j:Nat}(h:j<l.length):∃ r,drop (Int.toNat (j:Int)*sz) ((l.map re).flatMap e)=e (re l[j])++r:=⟨_,by rw[aD d (by rw[A48];exact h),A8i]⟩
def Awu{α:Type}[BEq α][ReflBEq α](a:α):cond true (a==a) false=true:=by rw[beq_self_eq_true];rfl
def Atc{R:Type}{x y:O R}:cond (cond true true false==true) x y=x:=rfl
def yz{l:List BusD}{a b c d:Bool}{K:Bool->O R}(k:l.length<=20000000000000)(m:∀ x∈l,x.demand.l.length<=20000000000000)(hN:20000000000000<N):We N ((l.map pE).flatMap BusD.av) l.length a b (l.flatMap BusD.av) l.length c d K=K true:=by
 rw[QD];unfold Zp
 rw[beq_self_eq_true]
 refine Z0 k (fun fuel=>?_) (fun fuel j h=>?_) l.length 0 N (by omega) (by omega)
 ·rw[F6];unfold Sd
  rw[Fk (by omega)];rfl
 ·rw[F6];unfold Sd
  rw[Er h]
  simp only[beq_self_eq_true,cond_true]
  unfold Uv
  obtain⟨n,e1⟩:=A1m (e:=BusD.av) (re:=pE) Kj h
  rw[Aa h,e1,aD (e:=BusD.av) Kj h]
  generalize hx:l[j]=x
  have f:=m x (by rw[<-hx];exact A5g h)
  show cond ((x.name==x.name)==true) _ _=_
  rw[beq_self_eq_true,beq_self_eq_true,ct,ct]
  show Gx.A5 1 ((jr x.demand).av 1 D5::_) _=_
  rw[A6,ct]
  show Gx.A5 1 (x.demand.av 1 D5::_) _=_
  rw[A6,show(jr x.demand).l=x.demand.l from rfl,U9 f hN,Atc,ct]
  show F6 N K ((l.map pE).flatMap BusD.av) l.length a b (l.flatMap BusD.av) l.length c d fuel (cond true (x.shed==x.shed) false) _=_
  rw[Awu]
def zH{l:List LineD}{a b c d:Bool}{K:Bool->O R}(q:l.length<=20000000000000)(t:∀ x∈l,x.away.l.length<=20000000000000)(hN:20000000000000<N):Wf N ((l.map Z1).flatMap LineD.av) l.length a b (l.flatMap LineD.av) l.length c d K=K true:=by
 rw[QE];unfold Zq
 rw[beq_self_eq_true]
 refine Z0 q (fun fuel=>?_) (fun fuel j h=>?_) l.length 0 N (by omega) (by omega)
 ·rw[Hw];unfold Se
  rw[Fk (by omega)];rfl
 ·rw[Hw];unfold Se
  rw[Er h]
  simp only[beq_self_eq_true,cond_true]
  unfold Uw
  rw[Aa h,Aau (e:=LineD.av) (re:=Z1) D9 h,A1v (e:=LineD.av) (re:=Z1) D9 h,Cd (e:=LineD.av) D9 h,Bp (e:=LineD.av) D9 h]
  generalize hx:l[j]=x
  have k:=t x (by rw[<-hx];exact A5g h)
  have f:∀(s:Bool)(m n:Int),((!s)||A0 [.int .i64 m,.int .i64 n])=true:=fun s m n=>by cases s<;>rfl
  show cond ((x.name==x.name)==true) _ _=_
  rw[beq_self_eq_true,beq_self_eq_true,ct]
  show cond (cond true (x.fr==x.fr) false==true) _ _=_
  rw[Awu,beq_self_eq_true,ct]
  show cond (cond true (x.tl==x.tl) false==true) _ _=_
  rw[Awu,beq_self_eq_true,ct]
  show cond ((!b)||A0 [.int .i64 x.re.num,.int .i64 x.re.den]) (cond ((!d)||A0 [.int .i64 x.re.num,.int .i64 x.re.den]) (cond (cond true ((x.re.num==x.re.num)&&((x.re.den==x.re.den)&&true)) false==true) _ _) _) _=_
  rw[f,f,ct,ct,beq_self_eq_true,beq_self_eq_true]
  show cond ((!b)||A0 [.int .i64 x.smin.num,.int .i64 x.smin.den]) (cond ((!d)||A0 [.int .i64 x.smin.num,.int .i64 x.smin.den]) (cond (cond true ((x.smin.num==x.smin.num)&&((x.smin.den==x.smin.den)&&true)) false==true) _ _) _) _=_
  rw[f,f,ct,ct,beq_self_eq_true,beq_self_eq_true]
  show cond ((!b)||A0 [.int .i64 x.smax.num,.int .i64 x.smax.den]) (cond ((!d)||A0 [.int .i64 x.smax.num,.int .i64 x.smax.den]) (cond (cond true ((x.smax.num==x.smax.num)&&((x.smax.den==x.smax.den)&&true)) false==true) _ _) _) _=_
  rw[f,f,ct,ct,beq_self_eq_true,beq_self_eq_true]
  show cond (cond true (x.limit==x.limit) false==true) _ _=_
  rw[Awu,beq_self_eq_true,ct]
  show cond (cond true (x.emer==x.emer) false==true) _ _=_
  rw[Awu,beq_self_eq_true,ct]
  show Gx.A5 1 ((jr x.away).av 1 D5::_) _=_
  rw[A6]
  show Gx.A5 1 (x.away.av 1 D5::_) _=_
  rw[A6,show(jr x.away).l=x.away.l from rfl,U9 k hN]
  rfl
def ut{l:List StoreD}{a b c d:Bool}{K:Bool->O R}(f:l.length<=20000000000000)(hN:20000000000000<N):Tn N (l.flatMap StoreD.av) l.length a b (l.flatMap StoreD.av) l.length c d K=K true:=by
 rw[ND];unfold W0
 rw[beq_self_eq_true]
 refine Z0 f (fun fuel=>?_) (fun fuel j h=>?_) l.length 0 N (by omega) (by omega)
 ·rw[Fb];unfold Pu
  rw[Fk (by omega)];rfl
 ·rw[Fb];unfold Pu
  rw[Er h]
  simp only[beq_self_eq_true,cond_true]
  unfold Sh
  rw[Aa h,Cd (e:=StoreD.av) I8 h,Bp (e:=StoreD.av) I8 h]
  generalize l[j]=x
  show Fb N K (l.flatMap StoreD.av) l.length a b (l.flatMap StoreD.av) l.length c d fuel ((x.name==x.name)&&((x.bus==x.bus)&&((x.capacity==x.capacity)&&((x.initial==x.initial)&&((x.final==x.final)&&((x.charge==x.charge)&&((x.discharge==x.discharge)&&(((x.eff.num==x.eff.num)&&((x.eff.den==x.eff.den)&&true))&&true)))))))) _=_
  simp only[beq_self_eq_true,Bool.and_self]
def Aa3{l:List TieD}{a b c d:Bool}{K:Bool->O R}(k:l.length<=20000000000000)(m:∀ x∈l,x.imp.l.length<=20000000000000/\x.exp.l.length<=20000000000000/\x.price.l.length<=20000000000000)(hN:20000000000000<N):Zu N ((l.map zL).flatMap TieD.av) l.length a b (l.flatMap TieD.av) l.length c d K=K true:=by
 rw[UE];unfold DL
 rw[beq_self_eq_true]
 refine Z0 k (fun fuel=>?_) (fun fuel j h=>?_) l.length 0 N (by omega) (by omega)
 ·rw[I9];unfold U0
  rw[Fk (by omega)];rfl
 ·rw[I9];unfold U0
  rw[Er h]
  simp only[beq_self_eq_true,cond_true]
  unfold W1
  rw[Aa h,Aau (e:=TieD.av) (re:=zL) Hf h,A1v (e:=TieD.av) (re:=zL) Hf h,Cd (e:=TieD.av) Hf h,Bp (e:=TieD.av) Hf h]
  generalize hx:l[j]=x
  have f:=m x (by rw[<-hx];exact A5g h)
  show cond ((x.name==x.name)==true) _ _=_
  rw[beq_self_eq_true,beq_self_eq_true,ct]
  show cond (cond true (x.bus==x.bus) false==true) _ _=_
  rw[Awu,beq_self_eq_true,ct]
  show Gx.A5 1 ((jr x.imp).av 1 D5::_) _=_
  rw[A6]
  show Gx.A5 1 (x.imp.av 1 D5::_) _=_
  rw[A6,show(jr x.imp).l=x.imp.l from rfl,U9 f.1 hN,Atc]
  show Gx.A5 1 ((jr x.exp).av 1 D5::_) _=_
  rw[A6]
  show Gx.A5 1 (x.exp.av 1 D5::_) _=_
  rw[A6,show(jr x.exp).l=x.exp.l from rfl,U9 f.2.1 hN,Atc]
  show Gx.A5 1 ((jr x.price).av 1 D5::_) _=_
  rw[A6]
  show Gx.A5 1 (x.price.av 1 D5::_) _=_
  rw[A6,show(jr x.price).l=x.price.l from rfl,U9 f.2.2 hN]
  rfl
def Ac4(x:UnitD):List Int:=[x.bus,x.min,x.max,x.noLoad,x.rampUp,x.rampDown,x.startRamp,x.stopRamp,x.upTime,x.downTime,x.startTime,x.hotCost,x.coldCost,x.hotHours,x.reserve,x.reservePrice,x.state,x.hours,x.output]
def zI{x:UnitD}{b:Bool}{K:LA->O R}:Tm N (x.av.take 22) b K=K ((Ac4 x).flatMap D5):=by rw[Z'];rfl
def Ay3(s:Bool)(m:SegD):((!s)||A0 m.av)=true:=by cases s<;>rfl
def Ay4(s:Bool)(m:MoveD):((!s)||A0 m.av)=true:=by cases s<;>rfl
def zJ{l:List UnitD}{a b c d:Bool}{K:Bool->O R}(m:l.length<=20000000000000)(s:∀ x∈l,x.away.l.length<=20000000000000/\x.segs.l.length<=20000000000000)(hN:20000000000000<N):Wg N ((l.map U_).flatMap UnitD.av) l.length a b (l.flatMap UnitD.av) l.length c d K=K true:=by
 rw[QF];unfold Zt
 rw[beq_self_eq_true]
 refine Z0 m (fun fuel=>?_) (fun fuel j h=>?_) l.length 0 N (by omega) (by omega)
 ·rw[Df];unfold Sg
  rw[Fk (by omega)];rfl
 ·rw[Df];unfold Sg
  rw[Er h]
  simp only[beq_self_eq_true,cond_true]
  unfold Uz Zs
  rw[Aa h,Aau (e:=UnitD.av) (re:=U_) Gw h,A1v (e:=UnitD.av) (re:=U_) Gw h,Cd (e:=UnitD.av) Gw h,Bp (e:=UnitD.av) Gw h]
  generalize hx:l[j]=x
  have f:=s x (by rw[<-hx];exact A5g h)
  show cond ((x.name==x.name)==true) _ _=_
  rw[beq_self_eq_true,beq_self_eq_true,ct]
  show Tm N ((U_ x).av.take 22) b _=_
  rw[zI]
  show Tm N (x.av.take 22) d _=_
  rw[zI]
  show Mk N ((Ac4 x).flatMap D5) (Ac4 x).length _ _ ((Ac4 x).flatMap D5) (Ac4 x).length _ _ _=_
  rw[U9 (show(Ac4 x).length<=20000000000000 by show 19<=_;decide) hN,Atc]
  show Gx.A5 1 ((jr x.away).av 1 D5::_) _=_
  rw[A6]
  show Gx.A5 1 (x.away.av 1 D5::_) _=_
  rw[A6,show(jr x.away).l=x.away.l from rfl,U9 f.1 hN,Atc]
  show Gx.A5 2 ((jr x.segs).av 2 SegD.av::_) _=_
  rw[A6]
  show Gx.A5 2 (x.segs.av 2 SegD.av::_) _=_
  rw[A6,show(jr x.segs).l=x.segs.l from rfl]
  show Uy N (Df N K ((l.map U_).flatMap UnitD.av) l.length a b (l.flatMap UnitD.av) l.length c d fuel) K ((l.map U_).flatMap UnitD.av) l.length a b (l.flatMap UnitD.av) l.length c d (cond true ((x.segs.l.length:Int)==(x.segs.l.length:Int)) false) _ (U_ x).av x.av=_
  rw[Awu]
  unfold Uy Zr
  have sg:∀ F:LA->Nat->O R,Gx.A5 2 ((U_ x).av.drop 4) F=F (x.segs.l.flatMap SegD.av) x.segs.l.length:=fun F=>by
   show Gx.A5 2 ((jr x.segs).av 2 SegD.av::_) _=_
   rw[A6];rfl
  have k:∀ F:LA->Nat->O R,Gx.A5 2 (x.av.drop 4) F=F (x.segs.l.flatMap SegD.av) x.segs.l.length:=fun F=>by
   show Gx.A5 2 (x.segs.av 2 SegD.av::_) _=_
   rw[A6]
  refine Z0 (n:=x.segs.l.length) (K:=fun t=>Df N K ((l.map U_).flatMap UnitD.av) l.length a b (l.flatMap UnitD.av) l.length c d fuel t (wrap .i64 ((j:Int)+1))) (q:=fun fu t w=>F7 N (Df N K ((l.map U_).flatMap UnitD.av) l.length a b (l.flatMap UnitD.av) l.length c d fuel) K ((l.map U_).flatMap UnitD.av) l.length a b (l.flatMap UnitD.av) l.length c d (U_ x).av x.av fu t (j:Int) w) f.2 (fun fu=>?_) (fun fu i hi=>?_) x.segs.l.length 0 N (by omega) (by omega)
  ·rw[F7];unfold Sf
   rw[sg,Fk (by omega)];rfl
  ·rw[F7];unfold Sf
   rw[sg,Er hi]
   simp only[beq_self_eq_true,cond_true]
   unfold Ux
   rw[sg,Aa hi,Cd (e:=SegD.av) (sz:=2) (fun _=>rfl) hi,Bp (e:=SegD.av) (sz:=2) (fun _=>rfl) hi,Ay3,ct,ct,ct,k,Aa hi,Cd (e:=SegD.av) (sz:=2) (fun _=>rfl) hi,Bp (e:=SegD.av) (sz:=2) (fun _=>rfl) hi,Ay3]
   generalize x.segs.l[i]=y
   show F7 N (Df N K ((l.map U_).flatMap UnitD.av) l.length a b (l.flatMap UnitD.av) l.length c d fuel) K ((l.map U_).flatMap UnitD.av) l.length a b (l.flatMap UnitD.av) l.length c d (U_ x).av x.av fu ((y.width==y.width)&&((y.price==y.price)&&true)) _ _=_
   rw[beq_self_eq_true,beq_self_eq_true];rfl
def rN{l:List OutD}{a b c d:Bool}{K:Bool->O R}(m:l.length<=20000000000000)(s:∀ x∈l,x.lines.l.length<=20000000000000/\x.moves.l.length<=20000000000000)(hN:20000000000000<N):Qn N ((l.map gp).flatMap OutD.av) l.length a b (l.flatMap OutD.av) l.length c d K=K true:=by
 rw[HT];unfold U1
 rw[beq_self_eq_true]
 refine Z0 m (fun fuel=>?_) (fun fuel j h=>?_) l.length 0 N (by omega) (by omega)
 ·rw[Cm];unfold Ns
  rw[Fk (by omega)];rfl
 ·rw[Cm];unfold Ns
  rw[Er h]
  simp only[beq_self_eq_true,cond_true]
  unfold Px Vr
  rw[Aa h,Aau (e:=OutD.av) (re:=gp) Ip h,A1v (e:=OutD.av) (re:=gp) Ip h,Cd (e:=OutD.av) Ip h,Bp (e:=OutD.av) Ip h]
  generalize hx:l[j]=x
  have f:=s x (by rw[<-hx];exact A5g h)
  show cond ((x.name==x.name)==true) _ _=_
  rw[beq_self_eq_true,beq_self_eq_true,ct]
  show Gx.A5 1 ((jr x.lines).av 1 D5::_) _=_
  rw[A6]
  show Gx.A5 1 (x.lines.av 1 D5::_) _=_
  rw[A6,show(jr x.lines).l=x.lines.l from rfl,U9 f.1 hN,Atc]
  show cond (cond true (x.corr==x.corr) false==true) _ _=_
  rw[Awu,beq_self_eq_true,ct]
  show Gx.A5 3 ((jr x.moves).av 3 MoveD.av::_) _=_
  rw[A6]
  show Gx.A5 3 (x.moves.av 3 MoveD.av::_) _=_
  rw[A6,show(jr x.moves).l=x.moves.l from rfl]
  show Pw N (Cm N K ((l.map gp).flatMap OutD.av) l.length a b (l.flatMap OutD.av) l.length c d fuel) K ((l.map gp).flatMap OutD.av) l.length a b (l.flatMap OutD.av) l.length c d (cond true ((x.moves.l.length:Int)==(x.moves.l.length:Int)) false) _ (gp x).av x.av=_
  rw[Awu]
  unfold Pw Vq
  have sg:∀ F:LA->Nat->O R,Gx.A5 3 ((gp x).av.drop 3) F=F (x.moves.l.flatMap MoveD.av) x.moves.l.length:=fun F=>by
   show Gx.A5 3 ((jr x.moves).av 3 MoveD.av::_) _=_
   rw[A6];rfl
  have k:∀ F:LA->Nat->O R,Gx.A5 3 (x.av.drop 3) F=F (x.moves.l.flatMap MoveD.av) x.moves.l.length:=fun F=>by
   show Gx.A5 3 (x.moves.av 3 MoveD.av::_) _=_
   rw[A6]
  refine Z0 (n:=x.moves.l.length) (K:=fun t=>Cm N K ((l.map gp).flatMap OutD.av) l.length a b (l.flatMap OutD.av) l.length c d fuel t (wrap .i64 ((j:Int)+1))) (q:=fun fu t w=>Eh N (Cm N K ((l.map gp).flatMap OutD.av) l.length a b (l.flatMap OutD.av) l.length c d fuel) K ((l.map gp).flatMap OutD.av) l.length a b (l.flatMap OutD.av) l.length c d (gp x).av x.av fu t (j:Int) w) f.2 (fun fu=>?_) (fun fu i hi=>?_) x.moves.l.length 0 N (by omega) (by omega)
  ·rw[Eh];unfold Nr
   rw[sg,Fk (by omega)];rfl
  ·rw[Eh];unfold Nr
   rw[sg,Er hi]
   simp only[beq_self_eq_true,cond_true]
   unfold Pv
   rw[sg,Aa hi,Cd (e:=MoveD.av) (sz:=3) (fun _=>rfl) hi,Bp (e:=MoveD.av) (sz:=3) (fun _=>rfl) hi,Ay4,ct,ct,ct,k,Aa hi,Cd (e:=MoveD.av) (sz:=3) (fun _=>rfl) hi,Bp (e:=MoveD.av) (sz:=3) (fun _=>rfl) hi,Ay4]
   generalize x.moves.l[i]=y
   show Eh N (Cm N K ((l.map gp).flatMap OutD.av) l.length a b (l.flatMap OutD.av) l.length c d fuel) K ((l.map gp).flatMap OutD.av) l.length a b (l.flatMap OutD.av) l.length c d (gp x).av x.av fu ((y.unit==y.unit)&&((y.up==y.up)&&((y.down==y.down)&&true))) _ _=_
   rw[beq_self_eq_true,beq_self_eq_true,beq_self_eq_true];rfl
structure ListsR(c:CaseD):Prop where
 b:c.buses.l.length<=20000000000000
 l:c.lines.l.length<=20000000000000
 u:c.units.l.length<=20000000000000
 s:c.stores.l.length<=20000000000000
 t:c.ties.l.length<=20000000000000
 o:c.outs.l.length<=20000000000000
def Aoz{c:CaseD}{a b:Bool}{K:Bool->O R}(hN:20000000000000<N)(hI:CaseI 20000000000000 c)(hL:ListsR c):UF N (A0s c).av a c.av b K=K true:=by
 rw[jf];unfold lB
 show cond ((c.hours==c.hours)==true) _ _=_
 rw[beq_self_eq_true,beq_self_eq_true,ct]
 have lm:∀{α β:Type}{f:α->β}{l:List α},(Sl.of (l.map f) false false).l.length=l.length:=A48 _
 show Gx.A5 1 ((jr c.reserve).av 1 D5::_) _=_
 rw[A6]
 show Gx.A5 1 (c.reserve.av 1 D5::_) _=_
 rw[A6,show(jr c.reserve).l=c.reserve.l from rfl,U9 hI.r.2 hN,Atc]
 show Gx.A5 3 ((Sl.of (c.buses.l.map pE) false false).av 3 BusD.av::_) _=_
 rw[A6,lm]
 show Gx.A5 3 (c.buses.av 3 BusD.av::_) _=_
 rw[A6,show(Sl.of (c.buses.l.map pE) false false).l=c.buses.l.map pE from rfl,yz hL.b (fun x hx=>(hI.b x hx).d.2) hN,Atc]
 show Gx.A5 12 ((Sl.of (c.lines.l.map Z1) false false).av 12 LineD.av::_) _=_
 rw[A6,lm]
 show Gx.A5 12 (c.lines.av 12 LineD.av::_) _=_
 rw[A6,show(Sl.of (c.lines.l.map Z1) false false).l=c.lines.l.map Z1 from rfl,zH hL.l (fun x hx=>(hI.l x hx).a.2) hN,Atc]
 show Gx.A5 22 ((Sl.of (c.units.l.map U_) false false).av 22 UnitD.av::_) _=_
 rw[A6,lm]
 show Gx.A5 22 (c.units.av 22 UnitD.av::_) _=_
 rw[A6,show(Sl.of (c.units.l.map U_) false false).l=c.units.l.map U_ from rfl,zJ hL.u (fun x hx=>⟨(hI.u x hx).a.2,(hI.u x hx).s.2⟩) hN,Atc]
 show Gx.A5 9 ((Sl.of c.stores.l false false).av 9 StoreD.av::_) _=_
 rw[A6]
 show Gx.A5 9 (c.stores.av 9 StoreD.av::_) _=_
 rw[A6,show(Sl.of c.stores.l false false).l=c.stores.l from rfl,ut hL.s hN,Atc]
 show Gx.A5 5 ((Sl.of (c.ties.l.map zL) false false).av 5 TieD.av::_) _=_
 rw[A6,lm]
 show Gx.A5 5 (c.ties.av 5 TieD.av::_) _=_
 rw[A6,show(Sl.of (c.ties.l.map zL) false false).l=c.ties.l.map zL from rfl,Aa3 hL.t (fun x hx=>⟨(hI.t x hx).i.2,(hI.t x hx).e.2,(hI.t x hx).p.2⟩) hN,Atc]
 show Gx.A5 4 ((Sl.of (c.outs.l.map gp) false false).av 4 OutD.av::_) _=_
 rw[A6,lm]
 show Gx.A5 4 (c.outs.av 4 OutD.av::_) _=_
 rw[A6,show(Sl.of (c.outs.l.map gp) false false).l=c.outs.l.map gp from rfl,rN hL.o (fun x hx=>⟨(hI.o x hx).l,(hI.o x hx).m.2⟩) hN]
 rfl
end
end Gx.Ct
namespace Gx.Cf
open Go Go.Proofs
section
variable{R:Type}
def Ao0:∀ i,i<16->A9 [98,A3k.getD i 0]=true/\A9 [108,A3k.getD i 0]=true/\A9 [117,A3k.getD i 0]=true/\A9 [111,A3k.getD i 0]=true:=by decide
end
end Gx.Cf
namespace Gx.Ct
open Go Go.Proofs Gx.Cf
def Aqk{n:Nat}:∀ r:List Ap,(∀ x∈r,x.length<=n)->(r.flatMap (32::·)).length<=(n+1)*r.length
|[],_=>by simp
|w::r,h=>by
  have:=Aqk r fun x hx=>h x (by simp[hx])
  have d:=h w (by simp)
  rw[A5r,A41,A42,A42,A6q];omega
def Ayf{W:List (List Ap)}(h:∀ ws∈W,ws.length<=60/\∀ x∈ws,x.length<=61):(W.flatMap Dg).length<=4000*W.length:=by
 induction W with
|nil=>simp
| cons ws W e =>
  have:=e fun x hx=>h x (by simp[hx])
  obtain⟨f,d⟩:=h ws (by simp)
  have j:(Dg ws).length<=4000:=by
   unfold Dg
   cases ws with
   |nil=>decide
   |cons w r =>
    have k:=d w (by simp)
    have:=Aqk r fun x hx=>d x (by simp[hx])
    rw[A42]at f
    rw[Gl,A41,A41,A5w];omega
  rw[A5r,A41,A42];omega
def fV{z:Int}(h:-1048576<=z/\z<=1048576):Vj z=false:=by unfold Vj;rw[decide_eq_false (by omega),decide_eq_false (by omega)];rfl
def I5{l:List Int}(h:∀ z∈l,-1048576<=z/\z<=1048576):Ar l=false:=by unfold Ar;rw[A7u];exact fun z d=>by rw[fV (h z d)];decide
def FW{α:Type}{p:α->Bool}{l:List α}(h:∀ x∈l,p x=false):l.any p=false:=by rw[A7u];exact fun x hx=>by rw[h x hx];decide
def Iv{lo hi v:Int}(h:G6 lo hi v=true):lo<=v/\v<=hi:=by unfold G6 at h;simpa using h
def rO{f:FracD}(h:O1 f=true):Fo f=false:=by
 unfold O1 at h;simp only[A47]at h
 have e:=Iv h.1;have d:=Iv h.2
 unfold Fo;rw[fV d,decide_eq_false (by omega),decide_eq_false (by omega)];rfl
def fW{i:Int}{n:Nat}(h:0<=i/\i<(n:Int)):El i n=true:=by unfold El;simpa using h
def Ayg:∀ i,i<16->∀ j,j<16->A3k.getD i 0=A3k.getD j 0->i=j:=by decide
def YQ{α:Type}{f:α->Ap}{k:UInt8}{l:List α}(q:l.length<=16)(m:k=98\/k=108\/k=117\/k=111)(h:∀ i (hi:i<l.length),f l[i]=[k,A3k.getD i 0]):(∀ s∈l.map f,A9 s=true)/\(l.map f).Nodup:=by
 refine⟨fun s hs=>?_,?_⟩
 ·obtain⟨x,hx,rfl⟩:=A5o.1 hs
  obtain⟨i,hi,rfl⟩:=A5q hx
  have:=Ao0 i (by omega)
  rw[h i hi]
  rcases m with rfl|rfl|rfl|rfl
  ·exact this.1
  ·exact this.2.1
  ·exact this.2.2.1
  ·exact this.2.2.2
 ·unfold List.Nodup
  rw[List.pairwise_iff_getElem]
  intro i j hi d n e
  rw[A48]at hi d
  rw[A8i,A8i,h i hi,h j d]at e
  simp only[List.cons.injEq,and_true,true_and]at e
  have:=Ayg i (by omega) j (by omega) e
  omega
def Alm{α:Type}{f:α->Ap}{w:Ap}{l:List α}(d:l.length<=1)(e:A9 w=true)(h:∀ x∈l,f x=w):(∀ s∈l.map f,A9 s=true)/\(l.map f).Nodup:=by
 refine⟨fun s hs=>?_,?_⟩
 ·obtain⟨x,hx,rfl⟩:=A5o.1 hs;rw[h x hx];exact e
 ·match l,d with
  |[],_=>exact .nil
  |[a],_=>simp
def Ac5{c:CaseD}(g:FR c):∀ l∈B5 c,(∀ s∈l,A9 s=true)/\l.Nodup:=by
 obtain⟨H,res,bs,ls,us,ss,ts,os,b,og,e,rfl⟩:=g
 have h:=b.h;have rl:=b.rl;have bl:=b.bl;have ll:=b.ll;have ul:=b.ul;have sl:=b.sl;have tl:=b.tl;have ol:=og.l
 intro l d
 simp only[B5,A5b,A5l,or_false]at d
 rcases d with rfl|rfl|rfl|rfl|rfl|rfl
 ·exact YQ (f:=BusD.name) (l:=bs) (by omega) (.inl rfl) fun i hi=>(b.bg i hi).name
 ·exact YQ (f:=LineD.name) (l:=ls) (by omega) (.inr (.inl rfl)) fun i hi=>(b.lg i hi).g.name
 ·exact YQ (f:=UnitD.name) (l:=us) (by omega) (.inr (.inr (.inl rfl))) fun i hi=>(b.ug i hi).name
 ·exact Alm (f:=StoreD.name) (l:=ss) (by omega) (w:=[115,48]) (by decide) fun x hx=>(b.sg x hx).name
 ·exact Alm (f:=TieD.name) (l:=ts) (by omega) (w:=[116,48]) (by decide) fun x hx=>(b.tg x hx).name
 ·exact YQ (f:=OutD.name) (l:=os) (by omega) (.inr (.inr (.inr rfl))) fun i hi=>(og.g i hi).name
def Ac6{c:CaseD}(g:FR c):Kf c=true:=by
 obtain⟨H,res,bs,ls,us,ss,ts,os,b,og,e,rfl⟩:=g
 have h:=b.h;have rl:=b.rl;have bl:=b.bl;have ll:=b.ll;have ul:=b.ul;have sl:=b.sl;have tl:=b.tl;have ol:=og.l
 unfold Kf
 simp only[A47,A5n,bH,Sl.l]
 refine⟨fun l d=>?_,fun u f=>?_,fun s hs=>fW (b.sg s hs).bus,fun t j=>fW (b.tg t j).bus,fun o e=>?_⟩
 ·obtain⟨i,hi,rfl⟩:=A5q d
  exact⟨fW (b.lg i hi).fr,fW (b.lg i hi).tx⟩
 ·obtain⟨i,hi,rfl⟩:=A5q f
  have:=Iv (b.ug i hi).state
  exact⟨fW (b.ug i hi).bus,fW (by omega)⟩
 ·obtain⟨i,hi,rfl⟩:=A5q e
  exact⟨fun l d=>fW ((og.g i hi).lr l d),fun m k=>fW ((og.g i hi).mr m k)⟩
def As8{c:CaseD}(g:FR c):(∀ ws∈EI c,ws.length<=60/\∀ x∈ws,x.length<=61)/\(EI c).length<=100:=by
 have hI:=(UT (M:=20000000000000) (by decide) g).1
 have nms:=Ac5 g
 have kn:=Ac6 g
 obtain⟨H,res,bs,ls,us,ss,ts,os,b,og,v,rfl⟩:=g
 have h:=b.h;have rl:=b.rl;have bl:=b.bl;have ll:=b.ll;have ul:=b.ul;have sl:=b.sl;have tl:=b.tl;have ol:=og.l
 have tx61:∀ z,Yb z->(tx z).length<=61:=fun z n=>A6k (NY z n) (by decide)
 refine⟨fun ws d=>⟨?_,(wa hI tx61 (fun f q t=>?_) (fun w d=>?_) (fun l u s hs=>?_) kn ws d).2⟩,?_⟩
 ·unfold EI at d
  simp only[A5b,A5d,A5o,bH,Sl.l]at d
  rcases d with rfl|⟨x,hx,rfl⟩|⟨x,hx,rfl⟩|⟨x,hx,rfl⟩|⟨x,hx,rfl⟩|⟨x,hx,rfl⟩|⟨x,hx,rfl⟩
  ·show([Dc,tx (H:Int),D7]++res.map tx).length<=60
   rw[A41,A48];show 3+res.length<=60;omega
  ·obtain⟨i,hi,rfl⟩:=A5q hx
   have:=(b.bg i hi).dl
   simp only[TC,A41,A48,A42,A43];omega
  ·obtain⟨i,hi,rfl⟩:=A5q hx
   have:=(b.lg i hi).g.aw
   simp only[Ng,A41,A48,A42,A43];omega
  ·obtain⟨i,hi,rfl⟩:=A5q hx
   have j:=(b.ug i hi).sl;have k:=(b.ug i hi).aw
   have e:(us[i].segs.l.flatMap aJ).length=us[i].segs.l.length*2:=by
    induction us[i].segs.l with
    |nil=>rfl
    |cons a r m=>rw[A5r,A41,m,A42];show 2+_=_;omega
   have st:(S8 us[i].state).length<=1:=by unfold S8;split<;>(try split)<;>(try split)<;>decide
   simp only[Jd,A41,A48,A42,A43,e];omega
  ·simp only[Fu,A42,A43];omega
  ·have g:=b.tg x hx
   have j:=g.il;have k:=g.el;have y:=g.pl
   simp only[Uh,A41,A48,A42,A43];omega
  ·obtain⟨i,hi,rfl⟩:=A5q hx
   have j:=(og.g i hi).ll;have k:=(og.g i hi).ml
   have e:∀ U,(os[i].moves.l.flatMap (Ta U)).length=os[i].moves.l.length*3:=fun U=>by
    induction os[i].moves.l with
    |nil=>rfl
    |cons a r m=>rw[A5r,A41,m,A42];show 3+_=_;omega
   have st:(cond os[i].corr [B4] []).length<=1:=by cases os[i].corr<;>decide
   simp only[Mx,A41,A48,A42,A43,e];omega
 ·have j:=NY _ q;have k:=NY _ t
  unfold H6;rw[A41,A42];omega
 ·unfold A0o at d
  simp only[A47,decide_eq_true_eq]at d
  omega
 ·have:=(nms l u).1 s hs
  unfold A9 at this
  simp only[A47,decide_eq_true_eq]at this
  omega
 ·simp only[EI,A41,A48,A42,bH,Sl.l];omega
def Ag1{c:CaseD}(g:FR c):Acc c:=by
 have hI:=(UT (M:=20000000000000) (by decide) g).1
 have nms:=Ac5 g
 have kn:=Ac6 g
 have f:=As8 g
 obtain⟨H,res,bs,ls,us,ss,ts,os,b,og,C,rfl⟩:=g
 have h:=b.h;have rl:=b.rl;have bl:=b.bl;have ll:=b.ll;have ul:=b.ul;have sl:=b.sl;have tl:=b.tl;have ol:=og.l
 have hH:∀{l:Sl Int},l.l.length=H->EJ (bH false H res bs ls us ss ts os) l=true:=fun e=>by
  unfold EJ;rw[e];exact decide_eq_true rfl
 refine⟨hI,?_,?_,?_,nms,kn,?_,?_,?_⟩
 ·show(decide (bs.length<=32)&&(decide (ls.length<=64)&&(decide (us.length<=16)&&(decide (ss.length<=8)&&(decide (ts.length<=8)&&decide (os.length<=64))))))=true
  simp only[A47,decide_eq_true_eq];omega
 ·show(1:Int)<=(H:Int)/\(H:Int)<=24;omega
 ·unfold Wq
  simp only[A47,A5n]
  refine⟨hH rl,fun x hx=>?_,fun x hx=>?_⟩
  ·simp only[bH,Sl.l]at hx
   obtain⟨i,hi,rfl⟩:=A5q hx
   exact hH (b.bg i hi).dl
  ·simp only[bH,Sl.l]at hx
   exact⟨hH (b.tg x hx).il,hH (b.tg x hx).el,hH (b.tg x hx).pl⟩
 ·unfold Fp
  rw[A5n]
  intro x hx
  simp only[bH,Sl.l]at hx
  obtain⟨i,hi,rfl⟩:=A5q hx
  have:=(og.g i hi).mc
  rw[A8o]at this ⊢
  rcases this with q|q
  ·right;rw[List.isEmpty_iff,<-A7g];simpa using q
  ·left;exact q
 ·unfold Hd
  simp only[A6p]
  refine⟨fV (by simp only[bH];omega),I5 fun z d=>by have:=b.rr z d;omega,FW fun x hx=>?_,FW fun x hx=>?_,FW fun x hx=>?_,FW fun x hx=>?_,FW fun x hx=>?_,FW fun x hx=>?_⟩
  all_goals simp only[bH,Sl.l]at hx
  ·obtain⟨i,hi,rfl⟩:=A5q hx
   have g:=b.bg i hi
   have:=g.shed
   unfold RC
   rw[I5 fun z d=>by have:=g.dr z d;omega,fV (by omega)];rfl
  ·obtain⟨i,hi,rfl⟩:=A5q hx
   have g:=(b.lg i hi).g
   have j:=g.re;have k:=g.smin;have n:=g.smax;have t:=Iv g.lim;have u:=Iv g.em
   simp only[A47]at j k n
   unfold Ui
   rw[rO j.1,rO k.1,rO n.1,I5 (l:=[_,_]) fun z d=>by
    simp only[A5b,A5l,or_false]at d
    rcases d with rfl | rfl<;>omega,I5 fun z d=>by have:=g.awr z d;omega];rfl
  ·obtain⟨i,hi,rfl⟩:=A5q hx
   have g:=b.ug i hi
   have so:=A5n.1 g.sok
   have j:=Iv g.min;have k:=Iv g.max;have n:=Iv g.startRamp;have t:=Iv g.stopRamp
   have D:=Iv g.noLoad;have F:=Iv g.rampUp;have G:=Iv g.rampDown;have I:=Iv g.upTime;have L:=Iv g.downTime;have S:=Iv g.startTime;have T:=Iv g.hotCost;have U:=Iv g.coldCost;have V:=Iv g.hotHours;have pa:=Iv g.reserve;have pb:=Iv g.reservePrice;have pc:=Iv g.hours
   have u:-1048576<=us[i].output/\us[i].output<=1048576:=by
    have:=g.output
    cases hs:us[i].state==2<;>rw[hs]at this<;>have:=Iv this<;>omega
   unfold Nm
   rw[I5 (l:=[_,_]) fun z d=>by
    simp only[A5b,A5l,or_false]at d
    rcases d with rfl|rfl<;>omega,FW (l:=us[i].segs.l) (p:=LC) fun s hs=>by
     have:=so s hs
     unfold nA at this
     simp only[A47]at this
     have v:=Iv this.1;have y:=Iv this.2
     unfold LC
     exact I5 fun z d=>by
      simp only[A5b,A5l,or_false]at d
      rcases d with rfl|rfl<;>omega,I5 (l:=[_,_,_,_,_,_,_,_,_,_,_,_,_]) fun z d=>by
    simp only[A5b,A5l,or_false]at d
    rcases d with rfl|rfl|rfl|rfl|rfl|rfl|rfl|rfl|rfl|rfl|rfl|rfl|rfl<;>omega,I5 fun z d=>by have:=g.awr z d;omega,I5 (l:=[_,_]) fun z d=>by
    simp only[A5b,A5l,or_false]at d
    rcases d with rfl | rfl<;>omega];rfl
  ·have g:=b.sg x hx
   have j:=g.cap;have k:=g.ini;have n:=g.fin;have t:=g.ch;have u:=g.dis;have X:=g.eff
   unfold Je Fo
   rw[I5 fun z d=>by
    simp only[A5b,A5l,or_false]at d
    rcases d with rfl | rfl | rfl | rfl | rfl<;>omega,fV (by omega),decide_eq_false (by omega),decide_eq_false (by omega)];rfl
  ·have g:=b.tg x hx
   unfold Rc
   rw[I5 fun z d=>by have:=g.ir z d;omega,I5 fun z d=>by have:=g.er z d;omega,I5 fun z d=>by have:=g.pr z d;omega];rfl
  ·obtain⟨i,hi,rfl⟩:=A5q hx
   have mi:=A5n.1 (og.g i hi).mi
   unfold Im
   refine FW fun m A=>?_
   have:=mi m A
   unfold Ai1 at this
   simp only[A47]at this
   have v:=Iv this.1;have y:=Iv this.2
   unfold OQ
   exact I5 fun z d=>by
    simp only[A5b,A5l,or_false]at d
    rcases d with rfl|rfl<;>omega
 ·refine A6k (Ayf f.1) (by have:=f.2;omega)
end Gx.Ct
namespace Gx.Ct
open Go Go.Proofs Gx.Cf
def Aln(H:Int)(res:List Int)(bs:List BusD)(ls:List LineD)(us:List UnitD)(ss:List StoreD)(ts:List TieD)(os:List OutD):CaseD:=⟨H,.of res false false,.of bs false false,.of ls false false,.of us false false,.of ss false false,.of ts false false,.of os false false⟩
def Ao1{c:CaseD}(g:FR c):ListsR c:=by
 have h:=(UT (M:=1000000000) (by decide) g).2
 have d:=h.b;have e:=h.l;have f:=h.u;have j:=h.s;have k:=h.t;have m:=h.o
 exact⟨by omega,by omega,by omega,by omega,by omega,by omega⟩
section
variable{R:Type}{N:Nat}{H:Int}{res:List Int}{bs:List BusD}{ls:List LineD}{us:List UnitD}{ss:List StoreD}{ts:List TieD}{os:List OutD}
def Awn{l:List Int}{c:CaseD}{K:Lu->O R}(hN:20000000000000<N)(g:FR c)(d:∀ K:LA->O R,IR N (A4 l) l.length false false K=K c.av):MK N (A4 l) l.length false false K=K (Nh c):=by
 have a:=Ag1 g
 have e:=Awk a
 rw[dZ];unfold dY
 rw[d,Ago (A1i (by omega)) NY (by omega) (UT (M:=1000000000) (by decide) g).1 (UT (M:=1000000000) (by decide) g).2]
 unfold tt;rw[if_pos e]
def Alo{l:List Int}{K:Bool->O R}{c d:CaseD}{f:Bool}(t:fit 2000 N)(hN:20000000000000<N)(g:FR c)(n:∀ K:LA->O R,IR N (A4 l) l.length false false K=K c.av)(u:CaseI 20000000000000 d)(hdL:ListsR d):
  ∀(m j fuel:Nat),j+m=2->m<fuel->B8 N K (A4 l) l.length false false fuel (j:Int) f (c.av++d.av)=K true
|0,j,fuel+1,v,_=>by
  obtain rfl:j=2:=by omega
  have a:=Ag1 g
  have e:=Awk a
  rw[B8];unfold Ga
  rw[show(decide (((2:Nat):Int)<2))=false from rfl,cf,n,tK NY Ak5 hN a.i]
  show PD N _=_
  rw[Wt];unfold WX
  rw[e]
  show MK N _ _ _ _ _=_
  rw[Awn hN g n]
  unfold tt
  rw[if_pos e,Awu]
| m+1,j,fuel+1,v,x=>by
  have y:=Alo (K:=K) (f:=f) t hN g n u hdL m (j+1) fuel (by omega) (by omega)
  have go:∀ e:CaseD,CaseI 20000000000000 e->ListsR e->(drop (0+(Int.toNat (j:Int))*8) (c.av++d.av)).take 8=e.av->ble 8 (drop (0+(Int.toNat (j:Int))*8) (c.av++d.av)).length=true->B8 N K (A4 l) l.length false false (fuel+1) (j:Int) f (c.av++d.av)=K true:=fun e q z A C=>by
   rw[B8];unfold Ga
   rw[decide_eq_true (show(j:Int)<2 by omega),ct,show Ac (j:Int) 2=true by simp[Ac];omega,ct,C,ct,A,show((beq 0 0)&&((beq e.av.length 8)&&(beq 8 8)))=true from rfl,ct,Fl,ct,Cs,Q8 (by omega),y,tK NY Ak5 hN q]
   by_cases k:Vk e=0
   ·rw[k,show tt e=Nh e by unfold tt;rw[if_pos k]]
    show NC N (Nh e) _=_
    rw[Aoy t (by omega) (A0d q k)]
    show UF N (A0s e).av false e.av f _=_
    rw[Aoz hN q z];rfl
   ·rw[show(Vk e != 0)=true by simp[k]];rfl
  have s:j=0\/j=1:=by omega
  rcases s with rfl|rfl
  ·exact go c (Ag1 g).i (Ao1 g) rfl rfl
  ·exact go d u hdL rfl rfl
def Ao2{l:List Int}{K:Bool->O R}(e:fit 2000 N)(hN:20000000000000<N)(hr:CaseI 20000000000000 (Aln H res bs ls us ss ts os))(hrL:ListsR (Aln H res bs ls us ss ts os))(j:l.length<=9223372036854775807):
  I4 N H (res.flatMap D5) res.length false false (bs.flatMap BusD.av) bs.length false false (ls.flatMap LineD.av) ls.length false false (us.flatMap UnitD.av) us.length false false (ss.flatMap StoreD.av) ss.length false false (ts.flatMap TieD.av) ts.length false false (os.flatMap OutD.av) os.length false false (A4 l) l.length false false K=K true:=by
 rw[Sm];unfold Il
 obtain⟨c,g,d⟩:=Agm (R:=R) (N:=N) (l:=l) (n:=l.length) (t:=false) (o:=false) rfl (by omega) j
 rw[d]
 exact Alo (f:=false) e hN g d hr hrL 2 0 N (by omega) (by omega)
end
end Gx.Ct
namespace Gx
open Go Go.Proofs Go.RowKit Go.ChangeShapes
def A0h{n:Int}(h:(Lit.int .i64 n).wf=true):-9223372036854775808<=n/\n<=9223372036854775807:=by simp only[Lit.wf,A47,decide_eq_true_eq,show IntKind.i64.min=-9223372036854775808 from rfl,show IntKind.i64.max=9223372036854775807 from rfl]at h;omega
open Cf Ct
section
def Gd:OpensW Tryz.prog 3 (α:={z:Int // Yb z}) (fun n=>[.int .i64 n.1]) 1:=(Abk Tryz.underlying3 (by kernel_rfl)).w.map _ (fun n=>⟨n.1,A0h n.2⟩) (fun _=>rfl) (fun _=>rfl)
def Ac7:OpensW Tryz.prog 9 (α:=Lu) (fun s=>[.str s]) 1:=(Ad8 Tryz.underlying9 (by kernel_rfl)).w.map _ (fun n=>n.1) (fun _=>rfl) (fun _=>rfl)
def A0i:OpensW Tryz.prog 4 (α:=Bool) (fun b=>[.bool b]) 1:=(Amj Tryz.underlying4 (by kernel_rfl)).w
def Alp{q:Int->Prop}:∀ m:List {n:Int // q n},m.flatMap (fun n=>[AV.int .i64 n.1])=(m.map (·.1)).flatMap D5
|[]=>rfl
|a::r=>by rw[A5r,Alp r];rfl
def Ayh{α:Type}{q:α->Prop}(l:List {a:α // q a}):∀ x∈l.map (·.1),q x:=fun x hx=>by obtain⟨y,_,rfl⟩:=A5o.1 hx;exact y.2
def LP{α:Type}(q:α->Prop)(l:List α):Prop:=(∀ x∈l,q x)/\l.length<=20000000000000
def YR{t d:TypeId}{α:Type}{q:α->Prop}{e:α->LA}{n:Nat}(f:Tryz.prog.underlying t=some (.slice d))(j:Tryz.prog.cellsOf t=1)(m:8<=Tryz.prog.bytesOf d)
  (h:OpensW Tryz.prog d (α:={b:α // q b}) (fun b=>e b.1) n):OpensW Tryz.prog t (α:={l:List α // LP q l}) (fun l=>[.imm (l.1.flatMap e) l.1.length n false false]) 1 :=
 (Ad9 (k:=8) f j h m).map _ (fun l=>⟨l.1.map (·.1),Ayh l.1,by rw[A48];have:=l.2;have:reachBytes=140737488351232:=rfl;omega⟩)
  (fun l=>by show [AV.imm (l.1.flatMap fun b=>e b.1) l.1.length n false false]=[AV.imm ((l.1.map (·.1)).flatMap e) (l.1.map (·.1)).length n false false];rw[List.flatMap_map,A48]) (fun _=>rfl)
def Ayi:OpensW Tryz.prog 22 (α:={l:List Int // LP Yb l}) (fun l=>[.imm (l.1.flatMap D5) l.1.length 1 false false]) 1:=YR (e:=D5) Tryz.underlying22 (by kernel_rfl) (of_decide_eq_true (by kernel_rfl)) Gd
def jt{α:Type}{q:α->Prop}{l:List α}(h:LP q l):(∀ x∈l,q x)/\l.length<=20000000000000:=h
def lc:OpensW Tryz.prog 22 (α:={s:Sl Int // Aij 20000000000000 s}) (fun s=>[s.1.av 1 D5]) 1:=Ayi.map _ (fun l=>⟨.of l.1 false false,jt l.2⟩) (fun _=>rfl) (fun _=>rfl)
def Ag2:OpensW Tryz.prog 78 (α:={f:FracD // Yb f.num/\Yb f.den}) (fun f=>[.int .i64 f.1.num,.int .i64 f.1.den]) 2:=(Ge Tryz.underlying78 (by kernel_rfl) (by decide) (Ah rfl Gd (Ah rfl Gd Jt))).map _ (fun p=>⟨⟨p.1.1,p.2.1.1⟩,p.1.2,p.2.1.2⟩) (fun _=>rfl) (fun _=>rfl)
def dN:OpensW Tryz.prog 82 (α:={l:List SegD // LP (fun s=>Yb s.width/\Yb s.price) l}) (fun l=>[.imm (l.1.flatMap SegD.av) l.1.length 2 false false]) 1:=YR Tryz.underlying82 (by kernel_rfl) (of_decide_eq_true (by kernel_rfl)) ((Ge Tryz.underlying124 (by kernel_rfl) (by decide) (Ah rfl Gd (Ah rfl Gd Jt))).map _ (fun p=>⟨⟨p.1.1,p.2.1.1⟩,p.1.2,p.2.1.2⟩) (fun _=>rfl) fun _=>rfl)
def Ayj:OpensW Tryz.prog 90 (α:={l:List MoveD // LP (fun m=>Yb m.up/\Yb m.down) l}) (fun l=>[.imm (l.1.flatMap MoveD.av) l.1.length 3 false false]) 1:=YR Tryz.underlying90 (by kernel_rfl) (of_decide_eq_true (by kernel_rfl)) ((Ge Tryz.underlying100 (by kernel_rfl) (by decide) (Ah rfl Gd (Ah rfl Gd (Ah rfl Gd Jt)))).map _ (fun p=>⟨⟨p.1.1,p.2.1.1,p.2.2.1.1⟩,p.2.1.2,p.2.2.1.2⟩) (fun _=>rfl) fun _=>rfl)
def A1n:OpensW Tryz.prog 55 (α:={b:BusD // BusI 20000000000000 b}) (fun b=>b.1.av) 3:=(Ge Tryz.underlying55 (by kernel_rfl) (by decide) (Ah rfl Ac7 (Ah rfl lc (Ah rfl Gd Jt)))).map _ (fun p=>⟨⟨p.1,p.2.1.1,p.2.2.1.1⟩,p.2.1.2,p.2.2.1.2⟩) (fun _=>rfl) (fun _=>rfl)
def A0j:OpensW Tryz.prog 80 (α:={b:LineD // LineI 20000000000000 b}) (fun b=>b.1.av) 12 :=
 (Ge Tryz.underlying80 (by kernel_rfl) (by decide) (Ah rfl Ac7 (Ah rfl Gd (Ah rfl Gd (Ah rfl Ag2 (Ah rfl Ag2 (Ah rfl Ag2 (Ah rfl Gd (Ah rfl Gd (Ah rfl lc Jt)))))))))).map _
  (fun ⟨a,b,c,d,e,f,g,h,i,_⟩=>⟨⟨a,b.1,c.1,d.1,e.1,f.1,g.1,h.1,i.1⟩,d.2,e.2,f.2,⟨g.2,h.2⟩,i.2⟩) (fun _=>rfl) (fun _=>rfl)
def A0k:OpensW Tryz.prog 84 (α:={b:UnitD // UnitI 20000000000000 b}) (fun b=>b.1.av) 22 :=
 (Ge Tryz.underlying84 (by kernel_rfl) (by decide) (Ah rfl Ac7 (Ah rfl Gd (Ah rfl Gd (Ah rfl Gd (Ah rfl dN (Ah rfl Gd (Ah rfl Gd (Ah rfl Gd (Ah rfl Gd (Ah rfl Gd (Ah rfl Gd
  (Ah rfl Gd (Ah rfl Gd (Ah rfl Gd (Ah rfl Gd (Ah rfl Gd (Ah rfl Gd (Ah rfl Gd (Ah rfl lc (Ah rfl Gd (Ah rfl Gd (Ah rfl Gd Jt))))))))))))))))))))))).map _
  (fun ⟨a,b,c,d,s,f,g,h,i,j,k,l,m,n,o,p,q,r,w,x,y,z,_⟩=>⟨⟨a,b.1,c.1,d.1,.of s.1 false false,f.1,g.1,h.1,i.1,j.1,k.1,l.1,m.1,n.1,o.1,p.1,q.1,r.1,w.1,x.1,y.1,z.1⟩,
   by simp only[A5b,A5l,or_false,forall_eq_or_imp,forall_eq];exact⟨c.2,d.2,f.2,g.2,h.2,i.2,j.2,k.2,l.2,m.2,n.2,o.2,p.2,q.2,r.2,y.2,z.2⟩,jt s.2,w.2⟩) (fun _=>rfl) (fun _=>rfl)
def Ayk:OpensW Tryz.prog 87 (α:={b:StoreD // StoreI 20000000000000 b}) (fun b=>b.1.av) 9 :=
 (Ge Tryz.underlying87 (by kernel_rfl) (by decide) (Ah rfl Ac7 (Ah rfl Gd (Ah rfl Gd (Ah rfl Gd (Ah rfl Gd (Ah rfl Gd (Ah rfl Gd (Ah rfl Ag2 Jt))))))))).map _
  (fun ⟨a,b,c,d,e,f,g,h,_⟩=>⟨⟨a,b.1,c.1,d.1,e.1,f.1,g.1,h.1⟩,⟨by simp only[A5b,A5l,or_false,forall_eq_or_imp,forall_eq];exact⟨c.2,d.2,e.2,f.2,g.2,h.2.1,h.2.2⟩⟩⟩) (fun _=>rfl) (fun _=>rfl)
def A1o:OpensW Tryz.prog 89 (α:={b:TieD // TieI 20000000000000 b}) (fun b=>b.1.av) 5 :=
 (Ge Tryz.underlying89 (by kernel_rfl) (by decide) (Ah rfl Ac7 (Ah rfl Gd (Ah rfl lc (Ah rfl lc (Ah rfl lc Jt)))))).map _
  (fun ⟨a,b,c,d,e,_⟩=>⟨⟨a,b.1,c.1,d.1,e.1⟩,c.2,d.2,e.2⟩) (fun _=>rfl) (fun _=>rfl)
def A1p:OpensW Tryz.prog 92 (α:={b:OutD // OutI 20000000000000 b}) (fun b=>b.1.av) 4 :=
 (Ge Tryz.underlying92 (by kernel_rfl) (by decide) (Ah rfl Ac7 (Ah rfl lc (Ah rfl A0i (Ah rfl Ayj Jt))))).map _
  (fun ⟨a,b,c,d,_⟩=>⟨⟨a,b.1,c,.of d.1 false false⟩,b.2.2,jt d.2⟩) (fun _=>rfl) (fun _=>rfl)
def A39(H:Int)(res:List Int)(bs:List BusD)(ls:List LineD)(us:List UnitD)(ss:List StoreD)(ts:List TieD)(os:List OutD):Prop:=CaseI 20000000000000 (Aln H res bs ls us ss ts os)/\ListsR (Aln H res bs ls us ss ts os)
def A3v:OpensW Tryz.prog 37 (α:={c:CaseD // ∃ H res bs ls us ss ts os,c=Aln H res bs ls us ss ts os/\A39 H res bs ls us ss ts os}) (fun c=>c.1.av) 8 :=
 (Ge Tryz.underlying37 (by kernel_rfl) (by decide) (Ah rfl Gd (Ah rfl Ayi (Ah rfl (YR Tryz.underlying30 (by kernel_rfl) (of_decide_eq_true (by kernel_rfl)) A1n)
  (Ah rfl (YR Tryz.underlying31 (by kernel_rfl) (of_decide_eq_true (by kernel_rfl)) A0j) (Ah rfl (YR Tryz.underlying32 (by kernel_rfl) (of_decide_eq_true (by kernel_rfl)) A0k) (Ah rfl (YR Tryz.underlying33 (by kernel_rfl) (of_decide_eq_true (by kernel_rfl)) Ayk)
   (Ah rfl (YR Tryz.underlying34 (by kernel_rfl) (of_decide_eq_true (by kernel_rfl)) A1o) (Ah rfl (YR Tryz.underlying35 (by kernel_rfl) (of_decide_eq_true (by kernel_rfl)) A1p) Jt))))))))).map _
  (fun ⟨h,r,b,l,u,s,t,o,_⟩=>⟨Aln h.1 r.1 b.1 l.1 u.1 s.1 t.1 o.1,h.1,r.1,b.1,l.1,u.1,s.1,t.1,o.1,rfl,⟨h.2,jt r.2,b.2.1,l.2.1,u.2.1,s.2.1,t.2.1,o.2.1⟩,⟨(jt b.2).2,(jt l.2).2,(jt u.2).2,(jt s.2).2,(jt t.2).2,(jt o.2).2⟩⟩) (fun _=>rfl) (fun _=>rfl)
end
section
variable{W:World}{H:Type}{enc:TypeId×Value->H}{β:Dl}{h:A8}
def As9{v:Value}{d:DataW H}{p:List MemPlace}(e:∃ cs,v=.agg cs)(f:DataW.Trod enc Tryz.prog W 0 (fun _=>true) true 37 v d p)(j:WOk Tryz.prog 37 d):
  ∃(H:Int)(res:List Int)(bs:List BusD)(ls:List LineD)(us:List UnitD)(ss:List StoreD)(ts:List TieD)(os:List OutD),A39 H res bs ls us ss ts os/\Rep (fun _ k=>k<W.heap.size) β h W (.agg (Aln H res bs ls us ss ts os).av) v:=by
 obtain⟨cs,rfl⟩:=e
 obtain⟨fuel,l⟩:=f
 obtain⟨m,⟨c,H,res,bs,ls,us,ss,ts,os,rfl,k⟩,hr⟩:=A3v.read enc W fuel _ _ _ l j
 refine⟨H,res,bs,ls,us,ss,ts,os,k,Aw5 ?_⟩
 rw[Rep]
 exact⟨cs.toList,rfl,m,hr⟩
def Ata{a:Option Addr}{len cap:Nat}{d:DataW H}{p:List MemPlace}(f:DataW.Trod enc Tryz.prog W 0 (fun _=>true) true 22 (.slice a len cap) d p):
  ∃ l:List Int,l.length<=maxLen/\Rep (fun _ k=>k<W.heap.size) β h W (.imm (A4 l) l.length 1 false false) (.slice a len cap):=by
 obtain⟨l,j,e⟩:=Aw4 (β:=β) (h:=h) Tryz.underlying22 (by kernel_rfl) (Abk Tryz.underlying3 (by kernel_rfl)) f
 rw[Alp,Bn]at e
 exact⟨l.map (·.1),by rw[A48];exact j,by rw[A48];exact e⟩
end
end Gx
