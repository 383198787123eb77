/- A part of the proof; each theorem says what it holds. -/
import Derived.Test.YtnlplnjnonldpaaGreatDoorP4
set_option linter.unusedVariables false
set_option linter.defProp false
set_option linter.unusedSimpArgs false
open Nat (ble beq)
open List (take drop replicate)
open Go.IntKind (wrap)
namespace Gx.Bl
open Go Go.Proofs Gx.Cf
section
variable {R:Type}
theorem zA {N:Nat} {l:List Int} {a b c d:Bool} {K:Bool→O R} (e:l.length≤1000000000):∀ (m j fuel:Nat),j+m=l.length→m<fuel→Ny N K (Ap l) l.length a b (Ap l) l.length c d fuel (j:Int)=K true
 | 0,j,fuel+1,k,_=>by
  rw[Ny];unfold AT
  rw[H2 (by omega),cf]
 | m+1,j,fuel+1,k,n=>by
  have h:j<l.length:=by omega
  rw[Ny];unfold AT
  rw[Gh h,ct,Aa h,ct,Az1,A0b,Hy h,ct,Hy h,show(l[j] != l[j])=false by simp,cf,wS (by omega)]
  exact zA e m (j+1) fuel (by omega) (by omega)
theorem Aqt {N:Nat} {l:List Int} {a b c d:Bool} {K:Bool→O R} (e:l.length≤1000000000) (hN:l.length<N):iX N (Ap l) l.length a b (Ap l) l.length c d K=K true:=by
 rw[iY];unfold lC
 rw[iW];unfold XK
 rw[show((l.length:Int) != (l.length:Int))=false by simp,cf]
 exact zA e l.length 0 N (by omega) hN
theorem lE {α β:Type} {f:α→β} {x y:List α} (h:x.map f=y.map f):x.length=y.length∧∀ (j:Nat) (e:j<x.length) (k:j<y.length),f x[j]=f y[j]:=by
 have n:=congrArg List.length h
 rw[A03,A03] at n
 refine⟨n,fun j e k=>?_⟩
 have e1:(x.map f)[j]'(by rw[A03];exact e)=(y.map f)[j]'(by rw[A03];exact k):=by simp only[h]
 rwa [List.getElem_map,List.getElem_map] at e1
theorem At3 {N M:Nat} {x y:RatD} {a b c d:Bool} {K:Bool→O R} (j:x.ok∧x.m≤M) (k:y.ok∧y.m≤M) (h:x.q=y.q) (e:fit (32*M+100) N):DZ N x.av 1 a b y.av 1 c d K=K true:=by
 have s:=e.1
 obtain⟨n,rfl⟩:∃ n,N=n+2:=⟨N - 2,by omega⟩
 rw[VR];unfold GL
 rw[show(((1:Nat):Int) != ((1:Nat):Int))=false from rfl,cf]
 rw[L7];unfold DY
 rw[show decide ((0:Int)<((1:Nat):Int))=true from rfl,ct,show Ae 0 1=true from rfl,ct]
 show cond (ble 3 x.av.length) (cond true (cond (ble 3 y.av.length) (Ya (n+2) (take 3 x.av) b (take 3 y.av) d _) none) none) none=_
 rw[OB,ct,ct,OB,ct,Tn,Tn,tT j.1 k.1 (e.le (by omega)),h,show Asv y.q y.q=0 by unfold Asv;simp,show((0:Int) != 0)=false from rfl,cf,L7];rfl
theorem VU {N M:Nat} {x y:NodeD} {a b:Bool} {K:Bool→O R} (s:aX M 1000000000 x) (t:aX M 1000000000 y) (h:x.y.l.map EntD.p=y.y.l.map EntD.p) (u:fit (32*M+100) N):∀ (m j fuel:Nat),j+m=x.y.l.length→m<fuel→F3 N K a x.av b y.av fuel (j:Int)=K true
 | 0,j,fuel+1,z,_=>by
  have rx:∀ F:LA→Nat→O R,Aw 4 (drop 4 x.av) F=F (x.y.l.flatMap EntD.av) x.y.l.length:=fun F=>by
   show Aw 4 (x.y.av 4 EntD.av::_) _=_
   rw[A2]
  rw[F3];unfold O4
  rw[rx,H2 (by omega),cf]
 | m+1,j,fuel+1,z,A=>by
  have B:=lE h
  have D:=s.1
  have e:j<x.y.l.length:=by omega
  have k:j<y.y.l.length:=by omega
  have n:=B.2 j e k
  unfold EntD.p at n
  rw[A33] at n
  have rx:∀ F:LA→Nat→O R,Aw 4 (drop 4 x.av) F=F (x.y.l.flatMap EntD.av) x.y.l.length:=fun F=>by
   show Aw 4 (x.y.av 4 EntD.av::_) _=_
   rw[A2]
  have ry:∀ F:LA→Nat→O R,Aw 4 (drop 4 y.av) F=F (y.y.l.flatMap EntD.av) y.y.l.length:=fun F=>by
   show Aw 4 (y.y.av 4 EntD.av::_) _=_
   rw[A2]
  have C:=VU (a:=a) (b:=b) (K:=K) s t h u m (j+1) fuel (by omega) (by omega)
  have vs:=At3 (R:=R) (N:=N) (M:=M) (a:=false) (b:=true) (c:=false) (d:=true) (K:=fun v=>cond (cond false true (!v)) (K false) (F3 N K a x.av b y.av fuel ((j+1:Nat):Int))) (s.2 _ (A0l e)) (t.2 _ (A0l k)) n.2 u
  have dx:∀ F:Int→O R,As .i64 (drop (Int.toNat (j:Int)*4) (x.y.l.flatMap EntD.av)) F=F (x.y.l[j]).i:=fun F=>by rw[Em G9 e];exact Ym
  have dy:∀ F:Int→O R,As .i64 (drop (Int.toNat (j:Int)*4) (y.y.l.flatMap EntD.av)) F=F (y.y.l[j]).i:=fun F=>by rw[Em G9 k];exact Ym
  have cx:drop 1 (drop (Int.toNat (j:Int)*4) (x.y.l.flatMap EntD.av))=(x.y.l[j]).v.av++(x.y.l.drop (j+1)).flatMap EntD.av:=by rw[Em G9 e];rfl
  have cy:drop 1 (drop (Int.toNat (j:Int)*4) (y.y.l.flatMap EntD.av))=(y.y.l[j]).v.av++(y.y.l.drop (j+1)).flatMap EntD.av:=by rw[Em G9 k];rfl
  have l3:∀ (q:RatD) (r:LA),ble 3 (q.av++r).length=true:=fun q r=>by rw[Az2];show ble 3 (3+r.length)=true;simp
  have t3:∀ (q:RatD) (r:LA),take 3 (q.av++r)=q.av:=fun q r=>rfl
  rw[F3];unfold O4
  rw[rx,Gh e,ct,rx,Aa e,ct,dx,ry,Aa k,ct,dy,n.1,show((y.y.l[j]).i != (y.y.l[j]).i)=false by simp,show(false==false)=true from rfl,ct,rx,Aa e,ct,cx,l3,ct,t3,show(beq (x.y.l[j]).v.av.length 3&&ble 3 3)=true from rfl,ct,ry,Aa k,ct,cy,l3,ct,t3,wS (by omega)]
  rw[show(beq (y.y.l[j]).v.av.length 3&&ble 3 3)=true from rfl,ct]
  exact vs.trans C
theorem Aqu {N M:Nat} {x y:NodeD} {a b:Bool} {K:Bool→O R} (n:aX M 1000000000 x) (q:aX M 1000000000 y) (h:x.v=y.v) (s:fit (32*M+100) N) (hN:1000000000<N):Ua N x.av a y.av b K=K true:=by
 obtain⟨j,u1,k,o1,y1⟩:=x
 obtain⟨u,u2,A,o2,y2⟩:=y
 unfold NodeD.v at h
 simp only[NodeV.mk.injEq] at h
 obtain⟨rfl,rfl,rfl,rfl,e⟩:=h
 have t:=(lE e).1
 rw[K_];unfold Xn
 have bz:∀ z:Int,(z != z)=false:=fun z=>by simp
 show As .i64 (.int .i64 j::_) _=_
 rw[Ym]
 show As .i64 (.int .i64 j::_) _=_
 rw[Ym,bz,show(false==false)=true from rfl,ct]
 show As .i64 (.int .i64 u1::_) _=_
 rw[Ym]
 show As .i64 (.int .i64 u1::_) _=_
 rw[Ym,bz,show((cond false true false:Bool)==false)=true from rfl,ct]
 show As .i64 (.int .i64 k::_) _=_
 rw[Ym]
 show As .i64 (.int .i64 k::_) _=_
 rw[Ym,bz,show((cond false true false:Bool)==false)=true from rfl,ct]
 show As .i64 (.int .i64 o1::_) _=_
 rw[Ym]
 show As .i64 (.int .i64 o1::_) _=_
 rw[Ym,bz,show((cond false true false:Bool)==false)=true from rfl,ct]
 show Aw 4 (y1.av 4 EntD.av::_) _=_
 rw[A2]
 show Aw 4 (y2.av 4 EntD.av::_) _=_
 rw[A2,t,bz,show(cond false true false:Bool)=false from rfl,cf]
 exact VU (N:=N) (M:=M) (x:=⟨j,u1,k,o1,y1⟩) (y:=⟨j,u1,k,o1,y2⟩) n q e s y1.l.length 0 N (by simp) (A0s n.1 hN)
section same
variable {N M:Nat} {x y:LogD} {a b:Bool} {K:Bool→O R}
theorem vH (n:LogG M 1000000000 x) (q:LogG M 1000000000 y) (h:x.nodes.l.map NodeD.v=y.nodes.l.map NodeD.v) (s:fit (32*M+100) N) (hN:1000000000<N):∀ (m j fuel:Nat),j+m=x.nodes.l.length→m<fuel→R5 N K a x.av b y.av fuel (j:Int)=K true
 | 0,j,fuel+1,t,_=>by
  have rx:∀ F:LA→Nat→O R,Aw 5 (drop 2 x.av) F=F (x.nodes.l.flatMap NodeD.av) x.nodes.l.length:=fun F=>by
   show Aw 5 (x.nodes.av 5 NodeD.av::_) _=_
   rw[A2]
  rw[R5];unfold AU
  rw[rx,H2 (by omega),cf]
 | m+1,j,fuel+1,t,u=>by
  have z:=lE h
  have A:=n.nodes
  have e:j<x.nodes.l.length:=by omega
  have k:j<y.nodes.l.length:=by omega
  have rx:∀ F:LA→Nat→O R,Aw 5 (drop 2 x.av) F=F (x.nodes.l.flatMap NodeD.av) x.nodes.l.length:=fun F=>by
   show Aw 5 (x.nodes.av 5 NodeD.av::_) _=_
   rw[A2]
  have ry:∀ F:LA→Nat→O R,Aw 5 (drop 2 y.av) F=F (y.nodes.l.flatMap NodeD.av) y.nodes.l.length:=fun F=>by
   show Aw 5 (y.nodes.av 5 NodeD.av::_) _=_
   rw[A2]
  rw[R5];unfold AU
  rw[rx,Gh e,ct,rx,Aa e,ct,Em B7 e,Lt B7,ct,ry,Aa k,ct,Em B7 k,Lt B7,ct,Hv B7,Hv B7,Aqu (n.node _ (A0l e)) (q.node _ (A0l k)) (z.2 j e k) s hN,show(!true)=false from rfl,cf,wS (by omega)]
  exact vH n q h s hN m (j+1) fuel (by omega) (by omega)
theorem zB (e:LogG M 1000000000 x) (u:LogG M 1000000000 y) (h:x.v=y.v) (A:fit (32*M+100) N) (hN:1000000000<N):∀ (m j fuel:Nat),j+m=x.cuts.l.length→m<fuel→R6 N K a x.av b y.av fuel (j:Int)=K true
 | 0,j,fuel+1,D,_=>by
  have rx:∀ F:LA→Nat→O R,Aw 6 (drop 1 x.av) F=F (x.cuts.l.flatMap CutD.av) x.cuts.l.length:=fun F=>by
   show Aw 6 (x.cuts.av 6 CutD.av::_) _=_
   rw[A2]
  rw[R6];unfold AW
  rw[rx,H2 (by omega),cf]
  exact vH e u (congrArg LogV.nodes h) A hN x.nodes.l.length 0 N (by omega) (A0s e.nodes hN)
 | m+1,j,fuel+1,D,G=>by
  have I:=lE (congrArg LogV.cuts h)
  have S:=e.cuts
  have k:j<x.cuts.l.length:=by omega
  have s:j<y.cuts.l.length:=by omega
  have rx:∀ F:LA→Nat→O R,Aw 6 (drop 1 x.av) F=F (x.cuts.l.flatMap CutD.av) x.cuts.l.length:=fun F=>by
   show Aw 6 (x.cuts.av 6 CutD.av::_) _=_
   rw[A2]
  have ry:∀ F:LA→Nat→O R,Aw 6 (drop 1 y.av) F=F (y.cuts.l.flatMap CutD.av) y.cuts.l.length:=fun F=>by
   show Aw 6 (y.cuts.av 6 CutD.av::_) _=_
   rw[A2]
  have t:=e.cut _ (A0l k)
  have n:=I.2 j k s
  have L:=zB e u h A hN m (j+1) fuel (by omega) (by omega)
  rw[R6];unfold AW
  rw[rx,Gh k,ct,rx,Aa k,ct,Em D2 k,Lt D2,ct,ry,Aa s,ct,Em D2 s,Lt D2,ct,Hv D2,Hv D2]
  generalize x.cuts.l[j]=p at t n
  generalize y.cuts.l[j]=q at n
  obtain⟨B,u1,n1,o1,y1,e1⟩:=p
  obtain⟨T,u2,n2,o2,y2,U⟩:=q
  unfold CutD.v at n
  simp only[CutV.mk.injEq] at n
  obtain⟨rfl,rfl,C,rfl,rfl,rfl⟩:=n
  have bz:∀ z:Int,(z != z)=false:=fun z=>by simp
  have rd:∀ (z:Int) (r:LA) (F:Int→O R),As .i64 (.int .i64 z::r) F=F z:=fun z r F=>Ym
  unfold Ac6 at t
  unfold CutD.av
  rw[show((beq 0 0)&&((beq (List.length ([.int .i64 B,.int .i64 u1,n1.av 1 Sh,.int .i64 o1,.int .i64 y1,.int .i64 e1]:LA)) 6)&&(beq 6 6)))=true from rfl,ct,show((beq 0 0)&&((beq (List.length ([.int .i64 B,.int .i64 u1,n2.av 1 Sh,.int .i64 o1,.int .i64 y1,.int .i64 e1]:LA)) 6)&&(beq 6 6)))=true from rfl,ct]
  simp only[A1b,A00,rd,bz,KY,ct]
  rw[show((false:Bool)==false)=true from rfl,ct,show((cond false true false:Bool)==false)=true from rfl,ct,ct,ct,ct]
  simp only at C t
  rw[←C,Aqt (by omega) (by omega),show(cond false true (!true):Bool)=false from rfl,cf,wS (by omega)]
  exact L
theorem zC (k:LogG M 1000000000 x) (q:LogG M 1000000000 y) (h:x.v=y.v) (s:fit (32*M+100) N) (hN:1000000000<N):∀ (m j fuel:Nat),j+m=x.uses.l.length→m<fuel→R7 N K a x.av b y.av fuel (j:Int)=K true
 | 0,j,fuel+1,t,_=>by
  have rx:∀ F:LA→Nat→O R,Aw 2 x.av F=F (x.uses.l.flatMap Cc) x.uses.l.length:=fun F=>by
   show Aw 2 (x.uses.av 2 Cc::_) _=_
   rw[A2]
  rw[R7];unfold AX
  rw[rx,H2 (by omega),cf]
  exact zB k q h s hN x.cuts.l.length 0 N (by omega) (A0s k.cuts hN)
 | m+1,j,fuel+1,t,u=>by
  have n:x.uses.l=y.uses.l:=congrArg LogV.uses h
  have A:=k.uses
  have e:j<y.uses.l.length:=by rw[←n];omega
  have rx:∀ F:LA→Nat→O R,Aw 2 x.av F=F (y.uses.l.flatMap Cc) y.uses.l.length:=fun F=>by
   show Aw 2 (x.uses.av 2 Cc::_) _=_
   rw[A2,n]
  have ry:∀ F:LA→Nat→O R,Aw 2 y.av F=F (y.uses.l.flatMap Cc) y.uses.l.length:=fun F=>by
   show Aw 2 (y.uses.av 2 Cc::_) _=_
   rw[A2]
  have rd:∀ (z:Int) (r:LA) (F:Int→O R),As .i64 (.int .i64 z::r) F=F z:=fun z r F=>Ym
  have B:=zC k q h s hN m (j+1) fuel (by omega) (by omega)
  rw[R7];unfold AX
  rw[rx,Gh e,ct,rx,Aa e,ct,Em Fr e,Lt Fr,ct,Hv Fr,show((!a)||A6 (Cc y.uses.l[j]))=true by cases a<;>rfl,ct,ry,Aa e,ct,Em Fr e,Lt Fr,ct,Hv Fr,show((!b)||A6 (Cc y.uses.l[j]))=true by cases b<;>rfl,ct]
  unfold Cc
  simp only[A1b,A00,rd]
  rw[show((ble 1 2)&&((beq (List.length ([.int .i64 (y.uses.l[j]).1,.int .i64 (y.uses.l[j]).2]:LA)) 2)&&((beq (List.length ([.int .i64 (y.uses.l[j]).1,.int .i64 (y.uses.l[j]).2]:LA)) 2)&&(true&&(!false)))))=true from rfl,ct,show(!(((y.uses.l[j]).1==(y.uses.l[j]).1)&&(((y.uses.l[j]).2==(y.uses.l[j]).2)&&true)))=false by simp,cf,wS (by rw[n] at A;omega)]
  exact B
theorem Aqv (e:LogG M 1000000000 x) (j:LogG M 1000000000 y) (h:x.v=y.v) (k:fit (32*M+100) N) (hN:1000000000<N):D_ N x.av a y.av b K=K true:=by
 have n:x.uses.l=y.uses.l:=congrArg LogV.uses h
 have q:=(lE (congrArg LogV.cuts h)).1
 have s:=(lE (congrArg LogV.nodes h)).1
 rw[i7];unfold XL
 have bz:∀ z:Int,(z != z)=false:=fun z=>by simp
 show Aw 2 (x.uses.av 2 Cc::_) _=_
 rw[A2]
 show Aw 2 (y.uses.av 2 Cc::_) _=_
 rw[A2,n,bz,show(false==false)=true from rfl,ct]
 show Aw 6 (x.cuts.av 6 CutD.av::_) _=_
 rw[A2]
 show Aw 6 (y.cuts.av 6 CutD.av::_) _=_
 rw[A2,q,bz,show((cond false true false:Bool)==false)=true from rfl,ct]
 show Aw 5 (x.nodes.av 5 NodeD.av::_) _=_
 rw[A2]
 show Aw 5 (y.nodes.av 5 NodeD.av::_) _=_
 rw[A2,s,bz,show(cond false true false:Bool)=false from rfl,cf]
 exact zC e j h k hN x.uses.l.length 0 N (by omega) (A0s e.uses hN)
end same
end
end Gx.Bl
namespace Gx.Bl
open Go Go.Proofs Gx.Cf
section
variable {R:Type}
def asc (s:Lu):Prop:=∀ c ∈ s,c.toNat<128
theorem asc.app {a b:Lu} (j:asc a) (k:asc b):asc (a++b):=fun c e=>by
 rcases A0f.1 e with e | e
 ·exact j c e
 ·exact k c e
theorem asc.take {a:Lu} (e:asc a) (n:Nat):asc (a.take n):=fun c j=>e c (A3b j)
theorem asc.drop {a:Lu} (e:asc a) (n:Nat):asc (a.drop n):=fun c j=>e c (A3u j)
theorem bT (u:Lu) (n:Nat):(At u).take n=At (u.take n):=by unfold At;rw[List.map_take]
theorem bD (u:Lu) (n:Nat):(At u).drop n=At (u.drop n):=by unfold At;rw[A5d]
theorem bS (u:Lu) (n:Nat) (x:UInt8):(At u).set n (.int .u8 (x.toNat:Int))=At (u.set n x):=by unfold At;rw[A6a]
theorem b1 (x:UInt8):([.int .u8 (x.toNat:Int)]:LA)=At [x]:=rfl
theorem bL (u:Lu):(At u).length=u.length:=by unfold At;rw[A03]
theorem zD {N:Nat} {e:List Int} {g i:Bool} (U:e.length≤12):∀ (m j b fuel:Nat) (u:Lu),e.length≤j+2*m→j≤100→m<fuel→m≤10→b≤u.length→asc u→b≤2000000+j →
  ∃ t,asc t∧∀ K:Lu→O R,C9 N K (Ap e) e.length g i fuel b (j:Int) (At u)=K t
 | 0,j,b,fuel+1,u,V,X,_,_,L,k,_=>by
  refine⟨u.take b,k.take b,fun K=>?_⟩
  rw[C9];unfold L8
  rw[wS (by omega),show(decide (((j+1:Nat):Int)<(e.length:Int))==true)=false by simp;omega,cf,A0b,bT,Wj];rfl
 | m+1,j,b,fuel+1,u,V,X,hf,S,L,k,Y=>by
  rcases A3q (j+1) e.length with A | A
  rotate_left
  ·refine⟨u.take b,k.take b,fun K=>?_⟩
   rw[C9];unfold L8
   rw[wS (by omega),show(decide (((j+1:Nat):Int)<(e.length:Int))==true)=false by simp;omega,cf,A0b,bT,Wj];rfl
  rcases A3q 0 b with h2 | h2
  rotate_left
  ·refine⟨u.take b,k.take b,fun K=>?_⟩
   rw[C9];unfold L8
   rw[wS (by omega),show(decide (((j+1:Nat):Int)<(e.length:Int))==true)=true by simp;omega,ct,show(cond true (decide ((b:Int)>0)) false:Bool)=false from decide_eq_false (by omega),cf,A0b,bT,Wj];rfl
  have B:j<e.length:=by omega
  obtain⟨c',c1,c2,c3⟩:=uz (R:=R) (N:=N) (v:=e[j]) (n:=(b:Int)) (by omega) (by omega)
  obtain⟨p,p1,p2,p3⟩:=uz (R:=R) (N:=N) (v:=e[j+1]) (n:=6) (by omega) (by omega)
  obtain⟨T,q1,q2,q3⟩:=uz (R:=R) (N:=N) (v:=wrap .i64 (Int.tdiv e[j+1] 6)) (n:=8) (by omega) (by omega)
  obtain⟨c,rfl⟩:∃ c:Nat,c'=c:=⟨c'.toNat,by omega⟩
  obtain⟨q,rfl⟩:∃ q:Nat,T=q:=⟨T.toNat,by omega⟩
  have hc:c<b:=by omega
  have z:wrap .i64 ((j:Int)+2)=((j+2:Nat):Int):=by rw[i64 (by omega)];omega
  have fin:∀ (C:Nat) (D:Lu),C≤D.length→asc D→C≤b+1→(∀ K:Lu→O R,Fm N (C9 N K (Ap e) e.length g i fuel) K (Ap e) e.length g i b (At u) (j:Int)=C9 N K (Ap e) e.length g i fuel C ((j+2:Nat):Int) (At D)) →
    ∃ t,asc t∧∀ K:Lu→O R,C9 N K (Ap e) e.length g i (fuel+1) b (j:Int) (At u)=K t:=by
   intro C D e1 G e3 e4
   obtain⟨t,s1,s2⟩:=zD (N:=N) (g:=g) (i:=i) U m (j+2) C fuel D (by omega) (by omega) (by omega) (by omega) e1 G (by omega)
   refine⟨t,s1,fun K=>?_⟩
   rw[C9];unfold L8
   rw[wS (by omega),show(decide (((j+1:Nat):Int)<(e.length:Int))==true)=true by simp;omega,ct,show(cond true (decide ((b:Int)>0)) false:Bool)=true from decide_eq_true (by omega),ct]
   exact(e4 K).trans (s2 K)
  have pre:∀ (k0:Nat→Int→LA→O R) (r0:Lu→O R) (Z:Int→Int→O R),
    (cond (Ae (j:Int) e.length) (As .i64 ((Ap e).drop ((Int.toNat (j:Int))*1)) fun r=>MC N r (b:Int) fun c=>cond (Ae (wrap .i64 ((j:Int)+1)) e.length) (As .i64 ((Ap e).drop (((wrap .i64 ((j:Int)+1)).toNat)*1)) fun s=>MC N s 6 fun p=>Z c p) none) none)=Z (c:Int) p:=fun k0 r0 Z=>by
   rw[Aa B,ct,Az1,A0b,Hy B,c3,wS (by omega),Aa A,ct,Az1,A0b,Hy A,p3]
  have sl:∀ x y:Nat,x≤y→((decide ((0:Int)≤(0:Int)))&&((decide (0≤(x:Int)))&&((decide ((x:Int)≤(y:Int)))&&(decide ((y:Int)≤(y:Int))))))=true:=fun x y h=>by simp;omega
  have sl2:∀ x y:Nat,x≤y→((decide (0≤(x:Int)))&&((decide ((x:Int)≤(y:Int)))&&((decide ((y:Int)≤(y:Int)))&&(decide ((y:Int)≤(y:Int))))))=true:=fun x y h=>by simp;omega
  have bl:∀ x:Nat,x≤10000000→(ble x 140737488355328&&ble (x*1) 140737488355328)=true:=fun x h=>by simp;omega
  have ins:∀ x:UInt8,x.toNat<128→asc (u.take c++[x]++(u.drop c).take (b - c)):=fun x I=>((k.take c).app fun y F=>by rw[A01] at F;rw[F];exact I).app ((k.drop c).take _)
  have insL:∀ x:UInt8,(u.take c++[x]++(u.drop c).take (b - c)).length=0+c+1+(b - c):=fun x=>by
   rw[Az2,Az2,A0o,A0o,A2d,A0t];omega
  have insE:∀ x:UInt8,take ((0+c+1)*1) (take ((0+c)*1) (take (c*1) (At u))++[.int .u8 (x.toNat:Int)])++take ((b - c)*1) (drop (0+c*1) (At u))=At (u.take c++[x]++(u.drop c).take (b - c)):=fun x=>by
   rw[b1,A0g,A0g,A0b,A0b,A0b,bT,bT,A4v,A6d,BM,bD,bT,Az0 (by rw[Az2,A0o,A0t];omega),bT,BM]
  by_cases e0:p=0
  ·subst e0
   have hq:(List.getD ([32,48,45,57,97,58,47,10]:Lu) q 0).toNat<128:=by
    have:q<8:=by omega
    rcases q with _ | _ | _ | _ | _ | _ | _ | _ | q<;>first | decide | omega
   refine fin b (u.set c (List.getD ([32,48,45,57,97,58,47,10]:Lu) q 0)) (by rw[List.length_set];exact L) (fun x I=>?_) (by omega) (fun K=>?_)
   ·rcases A4z I with h | h
    ·exact k x h
    ·rw[h];exact hq
   ·unfold Fm
    refine(pre (fun _ _ _=>none) K _).trans ?_
    rw[show((0:Int)==0)=true from rfl,ct,wS (by omega),Aa A,ct,Az1,A0b,Hy A,q3,Aa (show q<8 by omega),ct,Aa hc,ct,Az1,A0b,A0g,bL,show((beq 1 1)&&((ble (c+1) u.length)&&(!false)))=true by simp;omega,ct,z,Az1,bS]
  by_cases e1:p=1
  ·subst e1
   refine fin (c+(b - (c+1))) (u.take c++(u.drop (c+1)).take (b - (c+1))) (by rw[Az2,A0o,A0o,A2d];omega) ((k.take c).app ((k.drop _).take _)) (by omega) (fun K=>?_)
   unfold Fm
   refine(pre (fun _ _ _=>none) K _).trans ?_
   rw[show((1:Int)==0)=false from rfl,cf,show((1:Int)==1)=true from rfl,ct,show((decide ((0:Int)≤(0:Int)))&&((decide (0≤(c:Int)))&&((decide ((c:Int)≤(c:Int)))&&(decide ((c:Int)≤(b:Int))))))=true by simp;omega,ct,wS (by omega),sl2 (c+1) b (by omega),ct,Az1,Az1,bl _ (by omega),ct,z,A0b,A0b,A0b,A0g,bT,bD,bT,BM]
  by_cases G:p=2
  ·subst G
   refine fin (0+c+1+(b - c)) (u.take c++[32]++(u.drop c).take (b - c)) (by rw[insL];exact Az3 _) (ins 32 (by decide)) (by omega) (fun K=>?_)
   unfold Fm
   refine(pre (fun _ _ _=>none) K _).trans ?_
   rw[show((2:Int)==0)=false from rfl,cf,show((2:Int)==1)=false from rfl,cf,show((2:Int)==2)=true from rfl,ct,sl c b (by omega),ct,Az1,bl _ (by omega),ct,bl _ (by omega),ct,sl2 c b (by omega),ct,bl _ (by omega),ct,z]
   have:=insE 32
   rw[←this];rfl
  by_cases e3:p=3
  ·subst e3
   refine fin (0+c+1+(b - c)) (u.take c++[48]++(u.drop c).take (b - c)) (by rw[insL];exact Az3 _) (ins 48 (by decide)) (by omega) (fun K=>?_)
   unfold Fm
   refine(pre (fun _ _ _=>none) K _).trans ?_
   rw[show((3:Int)==0)=false from rfl,cf,show((3:Int)==1)=false from rfl,cf,show((3:Int)==2)=false from rfl,cf,show((3:Int)==3)=true from rfl,ct,sl c b (by omega),ct,Az1,bl _ (by omega),ct,bl _ (by omega),ct,sl2 c b (by omega),ct,bl _ (by omega),ct,z]
   have:=insE 48
   rw[←this];rfl
  by_cases e4:p=4
  ·subst e4
   refine fin (b+1) (u.take b++[10]) (by rw[Az2,A0o,A0t];omega) ((k.take b).app fun y F=>by rw[A01] at F;rw[F];decide) (by omega) (fun K=>?_)
   unfold Fm
   refine(pre (fun _ _ _=>none) K _).trans ?_
   rw[show((4:Int)==0)=false from rfl,cf,show((4:Int)==1)=false from rfl,cf,show((4:Int)==2)=false from rfl,cf,show((4:Int)==3)=false from rfl,cf,show((4:Int)==4)=true from rfl,ct,bl _ (by omega),ct,z,A0b,bT]
   rw[show([.int .u8 10]:LA)=At [10] from rfl,BM]
  ·have e5:p=5:=by omega
   subst e5
   refine fin c u (by omega) k (by omega) (fun K=>?_)
   unfold Fm
   refine(pre (fun _ _ _=>none) K _).trans ?_
   rw[show((5:Int)==0)=false from rfl,cf,show((5:Int)==1)=false from rfl,cf,show((5:Int)==2)=false from rfl,cf,show((5:Int)==3)=false from rfl,cf,show((5:Int)==4)=false from rfl,cf,show((5:Int)==5)=true from rfl,ct,sl c b (by omega),ct,Az1,z]
theorem Ah1 {N:Nat} {s:Lu} {j:List Int} {g i:Bool} (hN:100<N) (k:j.length≤12) (n:asc s) (q:s.length≤1048576):∃ e,asc e∧∀ K:Lu→O R,K' N s (Ap j) j.length g i K=K e:=by
 obtain⟨e,s1,s2⟩:=zD (R:=R) (N:=N) (g:=g) (i:=i) k 6 0 s.length N s (by omega) (by omega) (by omega) (by omega) (Az3 _) n (by omega)
 refine⟨e,s1,fun K=>?_⟩
 rw[a7];unfold PA
 exact s2 K
structure CaseG (N:Nat) (c:CaseD):Prop where
 s:Small c N
 n:4096≤N
 ok:Yt c=none
 h:1≤c.hours∧c.hours≤3
 u:1≤c.units.l.length∧c.units.l.length≤100
 o:c.outs.l.length≤100
theorem Aqw {N:Nat} {c:CaseD} (g:CaseG N c) (d:Bool) (h:Int):∃ L:List Int,L.length≤1000000∧∀ K:Nat→LA→O R,CT N c.av d h K=K L.length (Ap L):=by
 have e:=g.s.top.2.1
 have start:∀ K:Nat→LA→O R,CT N c.av d h K=cond ((cond false true (decide (h<0)))==false) (cond (cond false true (decide (h≥c.hours))) (K 0 []) (Ir N c.av d h fun i l=>K i l)) (K 0 []):=fun K=>by
  rw[SY];unfold SX
  rw[Hi,ct,De,TA g.s g.n,g.ok]
  show cond true (cond true (cond _ (As .i64 c.av _) _) _) none=_
  rw[ct,ct,Jj,ct]
 by_cases k:h<0
 ·exact⟨[],by simp,fun K=>by rw[start,show((cond false true (decide (h<0)))==false)=false by simp[k],cf];rfl⟩
 ·by_cases j:h≥c.hours
  ·exact⟨[],by simp,fun K=>by rw[start,show((cond false true (decide (h<0)))==false)=true by simp;omega,ct,decide_eq_true j];rfl⟩
  ·refine⟨A1 c h,?_,fun K=>?_⟩
   ·have:=JB h c.lines.l 0
    unfold A1;omega
   ·rw[start,show((cond false true (decide (h<0)))==false)=true by simp;omega,ct,decide_eq_false j,mM g.s];rfl
theorem PC {N:Nat} {c:CaseD} (g:CaseG N c) {b d:Nat} {f:Bool} {L:List Int} (hL:L.length≤1000000) (k:b<c.outs.l.length):∀ (m j fuel F:Nat) (G:LA),j+m=L.length→m<fuel→F≤j →
  ∃ (F':Nat) (G':LA),∀ K:Nat→LA→O R,Eh N K (b:Int) L.length f c.av (Ap L) fuel F (L.length:Int) (j:Int) G=K F' G'
 | 0,j,fuel+1,F,G,q,_,_=>by
  refine⟨F,G,fun K=>?_⟩
  rw[Eh];unfold Qd
  rw[H2 (by omega),cf]
 | m+1,j,fuel+1,F,G,q,t,hF=>by
  have h:j<L.length:=by omega
  have ol:=g.s.oli _ (A0l k)
  have pre:∀ K:Nat→LA→O R,Eh N K (b:Int) L.length f c.av (Ap L) (fuel+1) F (L.length:Int) (j:Int) G=cond ((c.outs.l[b]).lines.l.contains L[j]) (Eh N K (b:Int) L.length f c.av (Ap L) fuel (F+1) (L.length:Int) ((j+1:Nat):Int) (G.take (F*1)++[.int .i64 L[j]])) (Eh N K (b:Int) L.length f c.av (Ap L) fuel F (L.length:Int) ((j+1:Nat):Int) G):=fun K=>by
   rw[Eh];unfold Qd
   rw[Gh h,ct,Aa h,ct,Az1,A0b,A0g,Hy h,Ob,Aa k,ct,Em Li k]
   show Aw 1 ((c.outs.l[b]).lines.av 1 Sh::_) _=_
   rw[KY,Z2 rfl ol,wS (by omega),show(ble (F+1) 140737488355328&&ble ((F+1)*8) 140737488355328)=true by simp;omega,ct]
  cases n:(c.outs.l[b]).lines.l.contains L[j]
  ·obtain⟨F',G',e⟩:=PC g (d:=d) (f:=f) hL k m (j+1) fuel F G (by omega) (by omega) (by omega)
   exact⟨F',G',fun K=>by rw[pre,n,cf,e]⟩
  ·obtain⟨F',G',e⟩:=PC g (d:=d) (f:=f) hL k m (j+1) fuel (F+1) (G.take (F*1)++[.int .i64 L[j]]) (by omega) (by omega) (by omega)
   exact⟨F',G',fun K=>by rw[pre,n,ct,e]⟩
theorem Alp {N:Nat} {c:CaseD} (hN:1000001<N) (g:CaseG N c) (d:Bool) (h:Int) {b:Nat} (j:b<c.outs.l.length):∃ r:Bool,∀ K:Bool→O R,F_ N c.av d h (b:Int) K=K r:=by
 obtain⟨L,l1,l2⟩:=Aqw (R:=R) g d h
 obtain⟨F,G,e⟩:=PC (R:=R) (d:=0) (f:=d) g l1 j L.length 0 N 0 [] (by omega) (by omega) (by omega)
 refine⟨decide ((F:Int)>0),fun K=>?_⟩
 rw[QH];unfold OC
 rw[Hi,ct,De,PW];unfold Z4
 rw[show(decide ((b:Int)<0)==false)=true by rw[decide_eq_false (by omega)];rfl,ct,Ob,show(cond false true (decide ((b:Int)≥(c.outs.l.length:Int))):Bool)=false from decide_eq_false (by omega),cf]
 unfold Tb Yu
 rw[Hi,ct,De,l2]
 exact e _
theorem vI {N:Nat} {c:CaseD} (hN:1000001<N) (g:CaseG N c) {raw:List Int} {a b d:Bool} {hh:Int}:∀ (m j fuel k:Nat) (U:List (Int×Int)),j+m=c.outs.l.length→m<fuel→k≤10000+j→U.length≤k →
  ∃ (U':List (Int×Int)) (n:Nat),U'.length≤n∧n=k+m∧∀ (K0:Nat→Int→Int→LA→O R) (K:Nat→LA→O R),Dt N K0 K (Ap raw) raw.length a b d c.av fuel U.length (k:Int) hh (j:Int) (U.flatMap Cc)=K0 U'.length (n:Int) (wrap .i64 (hh+1)) (U'.flatMap Cc)
 | 0,j,fuel+1,k,U,t,_,_,hU=>by
  refine⟨U,k,hU,rfl,fun K0 K=>?_⟩
  rw[Dt];unfold GA
  rw[Ob,H2 (by omega),cf]
 | m+1,j,fuel+1,k,U,t,u,v,hU=>by
  have h:j<c.outs.l.length:=by omega
  have z:=g.o
  obtain⟨r,hr⟩:=Alp (R:=R) hN g d hh h
  have go:∀ (V:List (Int×Int)),V.length≤k+1→(∀ (K0:Nat→Int→Int→LA→O R) (K:Nat→LA→O R),Dt N K0 K (Ap raw) raw.length a b d c.av (fuel+1) U.length (k:Int) hh (j:Int) (U.flatMap Cc)=Dt N K0 K (Ap raw) raw.length a b d c.av fuel V.length ((k+1:Nat):Int) hh ((j+1:Nat):Int) (V.flatMap Cc)) →
    ∃ (U':List (Int×Int)) (n:Nat),U'.length≤n∧n=k+(m+1)∧∀ (K0:Nat→Int→Int→LA→O R) (K:Nat→LA→O R),Dt N K0 K (Ap raw) raw.length a b d c.av (fuel+1) U.length (k:Int) hh (j:Int) (U.flatMap Cc)=K0 U'.length (n:Int) (wrap .i64 (hh+1)) (U'.flatMap Cc):=by
   intro V hV e
   obtain⟨U',n,e1,A,e3⟩:=vI hN g (raw:=raw) (a:=a) (b:=b) (d:=d) (hh:=hh) m (j+1) fuel (k+1) V (by omega) (by omega) (by omega) hV
   exact⟨U',n,e1,by omega,fun K0 K=>by rw[e,e3]⟩
  have pre:∀ (K0:Nat→Int→Int→LA→O R) (K:Nat→LA→O R),Dt N K0 K (Ap raw) raw.length a b d c.av (fuel+1) U.length (k:Int) hh (j:Int) (U.flatMap Cc)=(cond (r==true) (cond ((cond true (decide ((k:Int)<(raw.length:Int))) false)==true) (cond (Ae (k:Int) raw.length) (As .i64 ((Ap raw).drop ((Int.toNat (k:Int))*1)) fun w=>cond (cond true ((Int.tmod w 2)==0) false) (Dt N K0 K (Ap raw) raw.length a b d c.av fuel (U.length+1) ((k+1:Nat):Int) hh ((j+1:Nat):Int) ((U++[(hh,(j:Int))]).flatMap Cc)) (Dt N K0 K (Ap raw) raw.length a b d c.av fuel U.length ((k+1:Nat):Int) hh ((j+1:Nat):Int) (U.flatMap Cc))) none) (Dt N K0 K (Ap raw) raw.length a b d c.av fuel U.length ((k+1:Nat):Int) hh ((j+1:Nat):Int) (U.flatMap Cc))) (Dt N K0 K (Ap raw) raw.length a b d c.av fuel U.length ((k+1:Nat):Int) hh ((j+1:Nat):Int) (U.flatMap Cc))):=fun K0 K=>by
   rw[Dt];unfold GA
   have ef:take (U.length*2) (U.flatMap Cc)++[.int .i64 hh,.int .i64 (j:Int)]=(U++[(hh,(j:Int))]).flatMap Cc:=by
    rw[Az0 (by rw[Dm Fr];exact Az3 _),A1h];rfl
   rw[Ob,Gh h,ct,Hi,ct,De,hr,wS (by omega),wS (by omega),ef,show(ble (U.length+1) 140737488355328&&ble ((U.length+1)*16) 140737488355328)=true by simp;omega,ct]
  cases r
  ·exact go U (by omega) fun K0 K=>by rw[pre];rfl
  ·by_cases q:k<raw.length
   ·cases s:Int.tmod raw[k] 2==0
    ·exact go U (by omega) fun K0 K=>by
      rw[pre,show((true:Bool)==true)=true from rfl,ct,show((cond true (decide ((k:Int)<(raw.length:Int))) false)==true)=true by simp;omega,ct,Aa q,ct,Az1,A0b,Hy q,s];rfl
    ·exact go (U++[(hh,(j:Int))]) (by rw[Az2,A0t];omega) fun K0 K=>by
      rw[pre,show((true:Bool)==true)=true from rfl,ct,show((cond true (decide ((k:Int)<(raw.length:Int))) false)==true)=true by simp;omega,ct,Aa q,ct,Az1,A0b,Hy q,s,Az2];rfl
   ·exact go U (by omega) fun K0 K=>by
     rw[pre,show((true:Bool)==true)=true from rfl,ct,show((cond true (decide ((k:Int)<(raw.length:Int))) false)==true)=false by simp;omega,cf]
theorem Ave {N:Nat} {c:CaseD} (hN:1000001<N) (g:CaseG N c) {raw:List Int} {a b d:Bool}:∃ U:List (Int×Int),U.length≤1000∧∀ K:Nat→LA→O R,gO N c.av d (Ap raw) raw.length a b K=K U.length (U.flatMap Cc):=by
 have v:=g.o
 have hh:=g.h
 have loop:∀ (m q fuel k:Nat) (U:List (Int×Int)),(q:Int)+m=c.hours→m<fuel→k≤100*q→U.length≤k→∃ U':List (Int×Int),U'.length≤1000∧∀ K:Nat→LA→O R,K8 N K (Ap raw) raw.length a b d c.av fuel U.length (k:Int) (q:Int) (U.flatMap Cc)=K U'.length (U'.flatMap Cc):=by
  intro m
  induction m with
  | zero =>
   intro q fuel k U hq e j hU
   cases fuel with
   | zero=>omega
   | succ fuel =>
    refine⟨U,by omega,fun K=>?_⟩
    rw[K8];unfold GB
    rw[Jj,show decide ((q:Int)<c.hours)=false from decide_eq_false (by omega),cf]
  | succ m n =>
   intro q fuel k U hq e j hU
   cases fuel with
   | zero=>omega
   | succ fuel =>
    obtain⟨U1,s,e1,z,e3⟩:=vI (R:=R) hN g (raw:=raw) (a:=a) (b:=b) (d:=d) (hh:=(q:Int)) c.outs.l.length 0 N k U (by omega) (by omega) (by omega) hU
    obtain⟨U2,t,u⟩:=n (q+1) fuel s U1 (by omega) (by omega) (by omega) e1
    refine⟨U2,t,fun K=>?_⟩
    rw[K8];unfold GB
    rw[Jj,show decide ((q:Int)<c.hours)=true from decide_eq_true (by omega),ct]
    have:=e3 (K8 N K (Ap raw) raw.length a b d c.av fuel) K
    refine A12 this ?_
    rw[wS (by omega)]
    exact u K
 obtain⟨U,u1,u2⟩:=loop c.hours.toNat 0 N 0 [] (by omega) (by omega) (by omega) (by simp)
 refine⟨U,u1,fun K=>?_⟩
 rw[nN];unfold gN
 exact u2 K
theorem vJ {N:Nat} {c:CaseD} (g:CaseG N c) {raw:List Int} (v:raw.length≤9223372036854775807) {gg d:Bool} {r i:Int} {f:Nat} {l:LA} (A:f≤100):∀ (m j fuel k:Nat) (q:List Int),j+m=c.units.l.length→m<fuel→k≤raw.length→q.length≤j→(0<m∨q≠[]) →
  ∃ (s:List Int) (z:Int) (e:Nat),s.length≤100∧e≤raw.length∧∀ (K0:Nat→Int→LA→Int→O R) (K:Nat→LA→O R),Fa N K0 K f i gg c.av l (Ap raw) raw.length d r fuel (j:Int) (k:Int) q.length (Ap q)=K0 (f+1) (wrap .i64 (i - 1)) (l.take (f*6)++(CutD.av ⟨0,r,.of s false false,wrap .i64 (1+z),0,0⟩)) (e:Int)
 | 0,j,fuel+1,k,q,L,_,B,hq,F=>by
  have S:=g.u
  have n:0<q.length:=by
   rcases F with h | h
   ·omega
   ·exact A13.2 h
  obtain⟨z,e,z1,z2,z3,z4⟩:=nx (R:=R) (N:=N) (t:=false) (o:=d) v (q.length:Int) (by omega) (by omega) k B
  have eav:CutD.av ⟨0,r,.of q false false,wrap .i64 (1+z),0,0⟩=[.int .i64 0,.int .i64 r,.imm (Ap q) q.length 1 false false,.int .i64 (wrap .i64 (1+z)),.int .i64 0,.int .i64 0]:=by
   show([.int .i64 0,.int .i64 r,.imm (q.flatMap Sh) q.length 1 false false,.int .i64 (wrap .i64 (1+z)),.int .i64 0,.int .i64 0]:LA)=_
   rw[Ft]
  refine⟨q,z,e,by omega,z3,fun K0 K=>?_⟩
  rw[eav,Fa];unfold Np
  rw[Ef,H2 (by omega),cf,z4,show(ble (f+1) 140737488355328&&ble ((f+1)*64) 140737488355328)=true by simp;omega,ct,A0b,Az0 (show(Ap q).length≤q.length by rw[Dw];exact Az3 _)]
 | m+1,j,fuel+1,k,q,L,U,B,hq,F=>by
  have S:=g.u
  have h:j<c.units.l.length:=by omega
  obtain⟨x,G,x1,x2,x3,x4⟩:=nx (R:=R) (N:=N) (t:=false) (o:=d) v 2 (by omega) (by omega) k B
  have rm:(ble (q.length+1) 140737488355328&&ble ((q.length+1)*8) 140737488355328)=true:=by simp;omega
  have eq1:take (q.length*1) (Ap q)++[.int .i64 (j:Int)]=Ap (q++[(j:Int)]):=by
   rw[A0b,Az0 (by rw[Dw];exact Az3 _),←SC];rfl
  have take:∀ (V:List Int),V.length≤j+1→(0<m∨V≠[])→(∀ (K0:Nat→Int→LA→Int→O R) (K:Nat→LA→O R),Fa N K0 K f i gg c.av l (Ap raw) raw.length d r (fuel+1) (j:Int) (k:Int) q.length (Ap q)=Fa N K0 K f i gg c.av l (Ap raw) raw.length d r fuel ((j+1:Nat):Int) (G:Int) V.length (Ap V)) →
    ∃ (s:List Int) (z:Int) (e:Nat),s.length≤100∧e≤raw.length∧∀ (K0:Nat→Int→LA→Int→O R) (K:Nat→LA→O R),Fa N K0 K f i gg c.av l (Ap raw) raw.length d r (fuel+1) (j:Int) (k:Int) q.length (Ap q)=K0 (f+1) (wrap .i64 (i - 1)) (l.take (f*6)++(CutD.av ⟨0,r,.of s false false,wrap .i64 (1+z),0,0⟩)) (e:Int):=by
   intro V v1 v2 v3
   obtain⟨s,z,e,e1,T,e3⟩:=vJ g v (gg:=gg) (d:=d) (r:=r) (i:=i) (f:=f) (l:=l) A m (j+1) fuel G V (by omega) (by omega) x3 v1 v2
   exact⟨s,z,e,e1,T,fun K0 K=>by rw[v3,e3]⟩
  by_cases I:x=1
  ·refine take (q++[(j:Int)]) (by rw[Az2,A0t];omega) (.inr (by simp)) fun K0 K=>?_
   rw[Fa];unfold Np
   rw[Ef,Gh h,ct,x4,I,show(((1:Int)==1)==false)=false from rfl,cf,rm,ct,eq1,wS (by omega),Az2];rfl
  have e1:((x==1)==false)=true:=by simpa using I
  by_cases n:q=[]
  ·subst n
   by_cases C:j+1=c.units.l.length
   ·refine take ([]++[(j:Int)]) (by simp) (.inr (by simp)) fun K0 K=>?_
    rw[Fa];unfold Np
    rw[Ef,Gh h,ct,x4,e1,ct,show(((([]:List Int).length:Nat):Int)==0)=true from rfl,show((true:Bool)==true)=true from rfl,ct,Ef]
    have D:wrap .i64 ((c.units.l.length:Int) - 1)=(j:Int):=by rw[i64 (by omega)];omega
    rw[D,show(cond false true (cond true ((j:Int)==(j:Int)) false):Bool)=true by simp,ct,rm,ct,eq1,wS (by omega)];rfl
   ·refine take [] (by simp) (.inl (by omega)) fun K0 K=>?_
    rw[Fa];unfold Np
    rw[Ef,Gh h,ct,x4,e1,ct,show(((([]:List Int).length:Nat):Int)==0)=true from rfl,show((true:Bool)==true)=true from rfl,ct,Ef]
    have D:wrap .i64 ((c.units.l.length:Int) - 1)=((c.units.l.length - 1:Nat):Int):=by rw[i64 (by omega)];omega
    rw[D,show(cond false true (cond true ((j:Int)==((c.units.l.length - 1:Nat):Int)) false):Bool)=false by
     show((j:Int)==((c.units.l.length - 1:Nat):Int))=false
     rw[beq_eq_false_iff_ne];omega,cf,wS (by omega)]
  ·refine take q (by omega) (.inr n) fun K0 K=>?_
   have:0<q.length:=A13.2 n
   rw[Fa];unfold Np
   rw[Ef,Gh h,ct,x4,e1,ct,show(((q.length:Int)==0)==true)=false by
    have:((q.length:Int)==0)=false:=by rw[beq_eq_false_iff_ne];omega
    rw[this];rfl,cf,wS (by omega)]
theorem zE {N:Nat} {c:CaseD} (g:CaseG N c) {raw:List Int} (j:raw.length≤9223372036854775807) {gg d:Bool}:∀ (m fuel k:Nat) (C:List CutD),m<fuel→k≤raw.length→m≤10→C.length+m≤10→(∀ x ∈ C,Ac6 100 x) →
  ∃ (C':List CutD),C'.length≤10∧(∀ x ∈ C',Ac6 100 x)∧∀ K:Nat→LA→O R,Fb N K gg c.av (Ap raw) raw.length d fuel C.length (m:Int) (C.flatMap CutD.av) (k:Int)=K C'.length (C'.flatMap CutD.av)
 | 0,fuel+1,k,C,_,G,_,hC,D=>by
  refine⟨C,by omega,D,fun K=>?_⟩
  rw[Fb];unfold Yc
  rw[show decide (((0:Nat):Int)>0)=false from rfl,cf]
 | m+1,fuel+1,k,C,hf,G,hm,hC,D=>by
  have hh:=g.h;have hu:=g.u;have hn:=g.n
  obtain⟨r,V,r1,r2,X,I⟩:=nx (R:=R) (N:=N) (t:=false) (o:=d) j c.hours (by omega) (by omega) k G
  obtain⟨s,L,s1,s2,S,T⟩:=nx (R:=R) (N:=N) (t:=false) (o:=d) j 2 (by omega) (by omega) V X
  have U:wrap .i64 (((m+1:Nat):Int) - 1)=(m:Int):=by rw[i64 (by omega)];omega
  have tk:take (C.length*6) (C.flatMap CutD.av)=C.flatMap CutD.av:=Az0 (by rw[Dm D2];exact Az3 _)
  have fin:∀ (x:CutD) (A:Nat),Ac6 100 x→A≤raw.length→(∀ K:Nat→LA→O R,Fb N K gg c.av (Ap raw) raw.length d (fuel+1) C.length ((m+1:Nat):Int) (C.flatMap CutD.av) (k:Int)=Fb N K gg c.av (Ap raw) raw.length d fuel (C.length+1) (m:Int) (C.flatMap CutD.av++x.av) (A:Int)) →
    ∃ (C':List CutD),C'.length≤10∧(∀ x ∈ C',Ac6 100 x)∧∀ K:Nat→LA→O R,Fb N K gg c.av (Ap raw) raw.length d (fuel+1) C.length ((m+1:Nat):Int) (C.flatMap CutD.av) (k:Int)=K C'.length (C'.flatMap CutD.av):=by
   intro x A Y F e
   obtain⟨C',c1,c2,c3⟩:=zE g j (gg:=gg) (d:=d) m fuel A (C++[x]) (by omega) F (by omega) (by rw[Az2,A0t];omega) (fun y B=>by
    rcases A0f.1 B with B | B
    ·exact D y B
    ·rw[A01] at B;rw[B];exact Y)
   refine⟨C',c1,c2,fun K=>?_⟩
   have:=c3 K
   rw[Az2,A1h] at this
   rw[e]
   simpa using this
  have rm:(ble (C.length+1) 140737488355328&&ble ((C.length+1)*64) 140737488355328)=true:=by simp;omega
  by_cases hs:s=0
  ·obtain⟨u,k3,u1,u2,u3,u4⟩:=nx (R:=R) (N:=N) (t:=false) (o:=d) j (c.units.l.length:Int) (by omega) (by omega) L S
   obtain⟨v,k4,v1,v2,v3,v4⟩:=nx (R:=R) (N:=N) (t:=false) (o:=d) j (r+1) (by omega) (by omega) k3 u3
   have wr:wrap .i64 (r+1)=r+1:=i64 (by omega)
   refine fin ⟨1,r,.of [] false false,0,u,v⟩ k4 (by unfold Ac6;simp[Sl.l]) v3 fun K=>?_
   rw[Fb];unfold Yc
   rw[show decide (((m+1:Nat):Int)>0)=true from decide_eq_true (by omega),ct,Jj,I,T,hs,show((0:Int)==0)=true from rfl,ct,Ef,u4,wr,v4,rm,ct,U,tk]
   rfl
  ·obtain⟨q',z,A,e1,e2,e3⟩:=vJ (R:=R) g j (gg:=gg) (d:=d) (r:=r) (i:=((m+1:Nat):Int)) (f:=C.length) (l:=C.flatMap CutD.av) (by omega) c.units.l.length 0 N L [] (by omega) (by omega) S (by simp) (.inl (by omega))
   refine fin ⟨0,r,.of q' false false,wrap .i64 (1+z),0,0⟩ A e1 e2 fun K=>?_
   rw[Fb];unfold Yc
   rw[show decide (((m+1:Nat):Int)>0)=true from decide_eq_true (by omega),ct,Jj,I,T,show(s==0)=false by simpa using hs,cf]
   have:=e3 (Fb N K gg c.av (Ap raw) raw.length d fuel) K
   rw[U,tk] at this
   exact this
theorem Avf {N:Nat} {c:CaseD} (g:CaseG N c) {raw:List Int} (e:raw.length≤9223372036854775807) {gg d t:Bool}:∃ (C:List CutD),C.length≤10∧(∀ x ∈ C,Ac6 100 x)∧∀ K:Nat→LA→O R,gQ N c.av gg (Ap raw) raw.length t d K=K C.length (C.flatMap CutD.av):=by
 have hn:=g.n
 obtain⟨v,k,v1,v2,v3,v4⟩:=nx (R:=R) (N:=N) (t:=false) (o:=d) e 4 (by omega) (by omega) 0 (by omega)
 obtain⟨n,rfl⟩:∃ n:Nat,v=n:=⟨v.toNat,by omega⟩
 obtain⟨C,c1,j,q⟩:=zE (R:=R) g e (gg:=gg) (d:=d) n N k [] (by omega) v3 (by omega) (by simp;omega) (by simp)
 refine⟨C,c1,j,fun K=>?_⟩
 rw[nO];unfold gP
 rw[MB];unfold eQ
 exact(v4 _).trans (q K)
end
end Gx.Bl
namespace Gx.Cf
open Go Go.Proofs
section
variable {R:Type}
theorem Qu {ok:Bool} {w:Int×Int×Int} {e:{ e:Int // e≠0 }} (h:ok=true):nd none ok w e=none:=by rw[h];rfl
theorem ED {α:Type} {f:Nat→α→Hz→Hz}:∀ (l:List α) (j:Nat),(∀ i (h:i<l.length),f (j+i) l[i] none=none)→Dr f l j none=none
 | [],_,_=>rfl
 | a::r,j,h=>by
  rw[Dr]
  have e:=h 0 (by simp)
  simp only[A1i,A4c] at e
  rw[e]
  exact ED r (j+1) (fun i hi=>by have:=h (i+1) (by simpa using hi);rw[show j+1+i=j+(i+1) by omega];simpa using this)
theorem Adb:∀ i,i<16→∀ j,j<16→Ayv.getD i 0=Ayv.getD j 0→i=j:=by decide
theorem d5:∀ i,i<16→CO [98,Ayv.getD i 0]=true∧CO [108,Ayv.getD i 0]=true∧CO [117,Ayv.getD i 0]=true∧CO [111,Ayv.getD i 0]=true:=by decide
theorem LG {names:List Lu} {k:Int} {i:Nat} {s:Lu} (e:CO s=true) (j:∀ x ∈ names.take i,x≠s):CP (names.take i) k i s none=none:=by
 unfold CP
 rw[Qu e,Qu]
 rw[A05]
 intro x n
 have:=j x n
 simpa using this
theorem ib {α β:Type} {f:α→β} {l:List α} {i:Nat} {x:β} (h:x ∈ (l.map f).take i):∃ j,∃ (e:j<l.length),j<i∧x=f l[j]:=by
 obtain⟨j,e,rfl⟩:=A1p h
 have k:j<i∧j<l.length:=by simp at e;omega
 exact⟨j,k.2,k.1,by simp⟩
theorem ic {H:Nat} {l:List Int} {lo hi:Int} {w:Int×Int×Int} (e:l.length=H) (j:∀ x ∈ l,lo≤x∧x≤hi):mG (H:Int) l lo hi w none=none:=by
 unfold mG
 rw[Qu (by simp[e]),Qu]
 rw[A05];intro x k;exact Ex (j x k)
theorem Ang {H:Nat} {l:List Int} {w:Int×Int×Int} (hH:1≤H∧H≤3) (e:l.length≤1) (j:∀ x ∈ l,0≤x∧x<(H:Int)):fA (H:Int) l w none=none:=by
 unfold fA
 rw[Nd (by omega),Qu,Qu]
 ·match l,e with
  | [],_=>exact pn
  | [a],_=>exact WL a
 ·rw[A05];intro x k;have:=j x k;exact Ex (by omega)
structure OutV (nl nu:Nat) (x:OutD):Prop where
 ll:x.lines.l.length=1∨x.lines.l.length=2
 lr:∀ y ∈ x.lines.l,0≤y∧y<(nl:Int)
 la:asc x.lines.l=true
 ml:x.moves.l.length≤16
 mc:((x.moves.l.length:Int)==0||x.corr)=true
 mr:∀ m ∈ x.moves.l,0≤m.unit∧m.unit<(nu:Int)
 ma:asc (x.moves.l.map (·.unit))=true
 mi:x.moves.l.all Aje=true
theorem vK {c:CaseD} {b:Int} (h:0≤b∧b<(c.buses.l.length:Int)):Y_ c b=true:=by
 unfold Y_;rw[decide_eq_true h.1,decide_eq_true h.2];rfl
theorem Avg {c:CaseD} {H:Nat} {u:List Int} {bs:List BusD} {ls:List LineD} {us:List UnitD} {ss:List StoreD} {ts:List TieD} {os:List OutD} (eH:c.hours=(H:Int)) (eR:c.reserve.l=u) (eB:c.buses.l=bs) (eL:c.lines.l=ls) (eU:c.units.l=us) (eS:c.stores.l=ss) (eT:c.ties.l=ts) (eO:c.outs.l=os)
  (b:BaseG H u bs ls us ss ts) (D:os.length≤4) (F:∀ x ∈ os,OutV ls.length us.length x)
  (hn:∀ i (h:i<os.length),CO os[i].name=true∧∀ j (q:j<os.length),j<i→os[j].name≠os[i].name):vt c=none:=by
 have hh:=b.h;have bl:=b.bl;have ll:=b.ll;have ul:=b.ul;have sl:=b.sl;have tl:=b.tl
 have G:r7 c none=none:=by
  unfold r7
  simp only[eH,eR,eB,eL,eU,eS,eT,eO]
  rw[Qu (Ex (by omega)),ic b.rl (fun x k=>by have:=b.rr x k;omega),Qu (Ex (by omega)),Qu (decide_eq_true (by omega)),Qu (decide_eq_true (by omega)),Qu (decide_eq_true (by omega)),Qu (decide_eq_true (by omega)),Qu (decide_eq_true (by omega))]
 have I:Dr (Aod c) bs 0 none=none:=by
  refine ED _ _ fun i hi=>?_
  have g:=b.bg i hi
  unfold Aod
  simp only[eH,eB,eL,eU,eS,eT,eO,A0g]
  rw[LG (by rw[g.name];exact(d5 i (by omega)).1) (by
   intro x k
   obtain⟨j,q,n,rfl⟩:=ib k
   rw[(b.bg j q).name,g.name]
   intro e;simp at e;have:=Adb j (by omega) i (by omega) (by simpa using e);omega),ic g.dl (fun x k=>by have:=g.dr x k;omega),Qu (Ex (by have:=g.shed;omega))]
 have L:Dr (mH c) ls 0 none=none:=by
  refine ED _ _ fun i hi=>?_
  have g:=b.lg i hi
  unfold mH
  simp only[eH,eB,eL,eU,eS,eT,eO,A0g]
  rw[LG (by rw[g.g.name];exact(d5 i (by omega)).2.1) (by
   intro x k
   obtain⟨j,q,n,rfl⟩:=ib k
   rw[(b.lg j q).g.name,g.g.name]
   intro e;simp at e;have:=Adb j (by omega) i (by omega) (by simpa using e);omega)]
  have v:=g.fr;have t:=g.tx;have C:=g.ne
  rw[Qu (vK (by rw[eB];omega)),Qu (vK (by rw[eB];omega)),Qu (by simpa using fun e=>C e.symm),Qu g.g.re,Qu g.g.smin,Qu g.g.smax,Qu g.g.lim,Qu g.g.em,Ang hh g.g.aw g.g.awr]
 have S:Dr (r_ c) us 0 none=none:=by
  refine ED _ _ fun i hi=>?_
  have g:=b.ug i hi
  unfold r_ Aof
  simp only[eH,eB,eL,eU,eS,eT,eO,A0g]
  have v:=g.bus
  have e1:CP ((us.map (·.name)).take i) 3 (i:Int) us[i].name none=none:=LG (by rw[g.name];exact(d5 i (by omega)).2.2.1) (by
   intro x k
   obtain⟨j,q,n,rfl⟩:=ib k
   rw[(b.ug j q).name,g.name]
   intro e;simp at e;have:=Adb j (by omega) i (by omega) (by simpa using e);omega)
  rw[e1,Qu (vK (by rw[eB];omega)),Qu g.min,Qu g.max,Qu (decide_eq_true (by have:=g.sl;omega)),Qu g.sok,Qu g.sord,Qu g.ssum,Qu g.noLoad,Qu g.rampUp,Qu g.rampDown,Qu g.startRamp,Qu g.stopRamp,Qu g.upTime,Qu g.downTime,Qu g.startTime,Qu g.hotCost,Qu g.coldCost,Qu g.hotHours,Qu g.reserve,Qu g.reservePrice,Ang hh g.aw g.awr,Qu g.state,Qu g.starting,Qu g.hours,Qu g.started]
  have t:=g.output
  cases k:us[i].state==2 with
  | true=>rw[k] at t;exact Qu t
  | false=>rw[k] at t;exact Qu t
 have z:Dr (b7 c) ss 0 none=none:=by
  refine ED _ _ fun i hi=>?_
  have g:=b.sg _ (A0l hi)
  have s:i=0:=by omega
  unfold b7 Pb
  simp only[eH,eB,eL,eU,eS,eT,eO,A0g]
  have v:=g.bus;have t:=g.cap;have C:=g.ini;have V:=g.fin;have X:=g.ch;have Y:=g.dis;have h7:=g.eff
  have e1:CP ((ss.map (·.name)).take i) 4 (i:Int) ss[i].name none=none:=LG (by rw[g.name];decide) (by subst s;simp)
  rw[e1,Qu (vK (by rw[eB];omega)),Qu (Ex (by omega)),Qu (Ex (by omega)),Qu (Ex (by omega)),Qu (Ex (by omega)),Qu (Ex (by omega)),Qu]
  rw[Ex (by omega),Ex (by omega)];simp;omega
 have A:Dr (Aoe c) ts 0 none=none:=by
  refine ED _ _ fun i hi=>?_
  have g:=b.tg _ (A0l hi)
  have s:i=0:=by omega
  unfold Aoe
  simp only[eH,eB,eL,eU,eS,eT,eO,A0g]
  have v:=g.bus
  have e1:CP ((ts.map (·.name)).take i) 5 (i:Int) ts[i].name none=none:=LG (by rw[g.name];decide) (by subst s;simp)
  rw[e1,Qu (vK (by rw[eB];omega)),ic g.il (fun x k=>by have:=g.ir x k;omega),ic g.el (fun x k=>by have:=g.er x k;omega),ic g.pl (fun x k=>by have:=g.pr x k;omega)]
 have B:Dr (Aey c) os 0 none=none:=by
  refine ED _ _ fun i hi=>?_
  have g:=F _ (A0l hi)
  obtain⟨n1,n2⟩:=hn i hi
  unfold Aey Aae
  simp only[eH,eB,eL,eU,eS,eT,eO,A0g]
  have e1:CP ((os.map (·.name)).take i) 6 (i:Int) os[i].name none=none:=LG n1 (by
   intro x k
   obtain⟨j,q,n,rfl⟩:=ib k
   exact n2 j q n)
  rw[e1,Qu (by have:=g.ll;simp;omega),Qu,Qu g.la,Qu g.mc,Qu (decide_eq_true (by have:=g.ml;omega)),Qu,Qu g.ma,Qu g.mi]
  ·rw[A05];intro m T;have:=g.mr m T;unfold Ar1;rw[eU];simp;omega
  ·rw[A05];intro y U;have:=g.lr y U;simp;omega
 unfold vt
 simp only[eB,eL,eU,eS,eT,eO]
 rw[G,I,L,S,z,A,B]
theorem Axa {f:Bool} {H:Nat} {e:List Int} {bs:List BusD} {ls:List LineD} {us:List UnitD} {ss:List StoreD} {ts:List TieD} {os:List OutD} (b:BaseG H e bs ls us ss ts) (k:os.length≤4) (n:∀ x ∈ os,OutV ls.length us.length x)
  (hn:∀ i (h:i<os.length),CO os[i].name=true∧∀ j (q:j<os.length),j<i→os[j].name≠os[i].name):vt (sB f H e bs ls us ss ts os)=none :=
 Avg rfl rfl rfl rfl rfl rfl rfl rfl b k n hn
theorem zF {c:CaseD} (h:c.outs.l=[]):∀ m j,Vf c m j none=none
 | 0,_=>rfl
 | m+1,j=>by rw[Vf,h];exact zF h m (j+1)
theorem Aqx {c:CaseD} (g:JC c):Yt c=none:=by
 obtain⟨H,e,bs,ls,us,ss,ts,os,b,og,k,rfl⟩:=g
 rcases k with rfl | k
 ·unfold Yt
  rw[Axa b (by simp) (by simp) (by simp)]
  exact zF rfl _ _
 ·have e1:vt (sB false H e bs ls us ss ts os)=vt (sB true H e bs ls us ss ts os):=rfl
  have n:∀ m j p,Vf (sB false H e bs ls us ss ts os) m j p=Vf (sB true H e bs ls us ss ts os) m j p:=by
   intro m
   induction m with
   | zero=>intro j p;rfl
   | succ m q =>
    intro j p
    rw[Vf,Vf]
    refine(q _ _).trans ?_
    rfl
  unfold Yt at k ⊢
  rw[e1,n]
  exact k
structure Made (c:CaseD):Prop where
 h:1≤c.hours∧c.hours≤3
 b:1≤c.buses.l.length∧c.buses.l.length≤100
 u:1≤c.units.l.length∧c.units.l.length≤100
 l:c.lines.l.length≤100
theorem At4 {c:CaseD} (g:JC c):Made c:=by
 obtain⟨H,e,bs,ls,us,ss,ts,os,b,og,n,rfl⟩:=g
 have q:=b.h;have j:=b.bl;have k:=b.ul;have s:=b.ll
 exact⟨⟨by show(1:Int)≤(H:Int);omega,by show(H:Int)≤3;omega⟩,⟨j.1,by show bs.length≤100;omega⟩,⟨k.1,by show us.length≤100;omega⟩,by show ls.length≤100;omega⟩
end
end Gx.Cf
namespace Gx.Bl
open Go Go.Proofs Gx.Cf
section
variable {R:Type}
theorem Alq {N:Nat} (hN:4000≤N) {raw:List Int} (e:raw.length≤9223372036854775807) {a b:Bool} {k:Nat} (u:k≤raw.length):∃ (v:RatD) (j:Nat),(v.ok∧v.m≤4)∧j≤raw.length∧∀ K:LA→Int→O R,Qk N (Ap raw) raw.length a b (k:Int) K=K v.av (j:Int):=by
 obtain⟨x,z,x1,x2,x3,x4⟩:=nx (R:=R) (N:=N) (t:=a) (o:=b) e 12 (by omega) (by omega) k u
 obtain⟨y,n,y1,y2,y3,y4⟩:=nx (R:=R) (N:=N) (t:=a) (o:=b) e 3 (by omega) (by omega) z x3
 have small:∀ (p:Int) (q:Nat),p.natAbs<4294967296→q<4294967296→((Abx (mkRat p q)).ok∧(Abx (mkRat p q)).m≤4):=fun p q B hq=>by
  refine⟨Abz _,?_⟩
  have C:=Atv p q
  have D:(Al p.natAbs).length≤1:=Dn (by omega)
  have F:(Al q).length≤1:=Dn (by omega)
  rw[Amy];omega
 have s:wrap .i64 (x - 6)=x - 6:=i64 (by omega)
 have A:wrap .i64 (x - 6+1)=x - 6+1:=i64 (by omega)
 have w3:wrap .i64 (1+y)=1+y:=i64 (by omega)
 by_cases h:x - 6≥0
 ·refine⟨Abx (mkRat (x - 6+1) (1+y).natAbs),n,small _ _ (by omega) (by omega),y3,fun K=>?_⟩
  rw[Pc];unfold Oo
  rw[x4,s,decide_eq_true h,ct,y4,A,w3,tU (by omega) (by omega) hN];rfl
 ·refine⟨Abx (mkRat (x - 6) (1+y).natAbs),n,small _ _ (by omega) (by omega),y3,fun K=>?_⟩
  rw[Pc];unfold Oo
  rw[x4,s,decide_eq_false h,cf,y4,w3,tU (by omega) (by omega) hN];rfl
section tree
variable {N:Nat} {c:CaseD} {raw:List Int} {f d:Bool} {gg i:Nat} {l m:LA}
def LH (N:Nat) (c:CaseD) (raw:List Int) (f d:Bool) (gg i:Nat) (l m:LA) (P:List NodeD) (X:(Int→Int→Nat→LA→O R)→(LA→O R)→O R):Prop :=
 ∃ (q':Int) (k':Nat) (n:NodeD),aX 4 1000 n∧k'≤raw.length∧∀ (S:Int→Int→Nat→LA→O R) (K:LA→O R),X S K=S q' (k':Int) (P.length+1) ((P++[n]).flatMap NodeD.av)
theorem Anh {P:List NodeD} (hP:P.length≤100) {an ad ap aq ar:Int} {k:Nat} (j:k≤raw.length) {E:List EntD} (hE:E.length≤1000∧∀ e ∈ E,Ahh 4 e):LH (R:=R) N c raw f d gg i l m P (fun S K=>Rb N S K f c.av (Ap raw) raw.length d gg i l m an (k:Int) P.length ad ap aq ar E.length (P.flatMap NodeD.av) (E.flatMap EntD.av)):=by
 have rm:(ble (P.length+1) 140737488355328&&ble ((P.length+1)*56) 140737488355328)=true:=by simp;omega
 have e1:take (E.length*4) (E.flatMap EntD.av)=E.flatMap EntD.av:=Az0 (by rw[Dm G9];exact Az3 _)
 have n:take (P.length*5) (P.flatMap NodeD.av)=P.flatMap NodeD.av:=Az0 (by rw[Dm B7];exact Az3 _)
 have e3:P.flatMap NodeD.av++[.int .i64 ad,.int .i64 ap,.int .i64 aq,.int .i64 ar,.imm (E.flatMap EntD.av) E.length 4 false false]=(P++[(⟨ad,ap,aq,ar,.of E false false⟩:NodeD)]).flatMap NodeD.av:=by
  rw[A1h];rfl
 by_cases h:ad=0
 ·refine⟨wrap .i64 ((wrap .i64 (an - 1))+3),k,⟨ad,ap,aq,ar,.of E false false⟩,⟨hE.1,hE.2⟩,j,fun S K=>?_⟩
  unfold Rb
  dsimp only
  rw[show(ad==0)=true by simpa using h,ct,rm,ct,e1,n,e3]
 ·refine⟨wrap .i64 (an - 1),k,⟨ad,ap,aq,ar,.of E false false⟩,⟨hE.1,hE.2⟩,j,fun S K=>?_⟩
  unfold Rb
  dsimp only
  rw[show(ad==0)=false by simpa using h,cf,rm,ct,e1,n,e3]
theorem Ani (hN:4000≤N) (s:raw.length≤9223372036854775807) {P:List NodeD} (hP:P.length≤100) {ae ai:Int}:∀ (af fuel k:Nat) (y:Int) (E:List EntD),af<fuel→k≤raw.length→E.length+af≤1000→(∀ e ∈ E,Ahh 4 e) →
  LH (R:=R) N c raw f d gg i l m P (fun S K=>Vy N S K f c.av (Ap raw) raw.length d gg i l m fuel ae y (af:Int) (k:Int) P.length ai E.length (P.flatMap NodeD.av) (E.flatMap EntD.av))
 | 0,fuel+1,k,y,E,_,u,hE,A=>by
  obtain⟨B,C,n,n1,n2,n3⟩:=Anh (R:=R) (N:=N) (c:=c) (raw:=raw) (f:=f) (d:=d) (gg:=gg) (i:=i) (l:=l) (m:=m) hP (an:=ae) (ad:=ai) (ap:=0) (aq:=0) (ar:=0) u (E:=E) ⟨by omega,A⟩
  refine⟨B,C,n,n1,n2,fun S K=>?_⟩
  dsimp only
  rw[Vy];unfold GC
  rw[show decide (((0:Nat):Int)>0)=false from rfl,cf]
  exact n3 S K
 | af+1,fuel+1,k,y,E,G,u,hE,A=>by
  obtain⟨x,I,x1,x2,x3,x4⟩:=nx (R:=R) (N:=N) (t:=false) (o:=d) s 9 (by omega) (by omega) k u
  obtain⟨v,D,v1,v2,v3⟩:=Alq (R:=R) hN s (a:=false) (b:=d) x3
  obtain⟨B,C,n,n1,n2,n3⟩:=Ani hN s hP (ae:=ae) (ai:=ai) af fuel D (wrap .i64 (y+(wrap .i64 (1+x)))) (E++[⟨wrap .i64 (y+(wrap .i64 (1+x))),v⟩]) (by omega) v2 (by rw[Az2,A0t];omega) (fun e j=>by
   rcases A0f.1 j with j | j
   ·exact A e j
   ·rw[A01] at j;rw[j];exact v1)
  refine⟨B,C,n,n1,n2,fun S K=>?_⟩
  have F:wrap .i64 (((af+1:Nat):Int) - 1)=(af:Int):=by rw[i64 (by omega)];omega
  have e1:take (E.length*4) (E.flatMap EntD.av)=E.flatMap EntD.av:=Az0 (by rw[Dm G9];exact Az3 _)
  dsimp only
  rw[Vy];unfold GC
  rw[show decide (((af+1:Nat):Int)>0)=true from decide_eq_true (by omega),ct,x4,v3,show((beq v.av.length 3)&&(ble 4 4))=true from rfl,ct]
  have es:∀ z:Int,setCells [(.int .i64 z),(.bool false),.nsl,.nsl] 1 v.av=EntD.av ⟨z,v⟩:=fun z=>rfl
  rw[es,show((beq (EntD.av ⟨wrap .i64 (y+wrap .i64 (1+x)),v⟩).length 4)&&(ble 4 4))=true from rfl,ct,show(ble (E.length+1) 140737488355328&&ble ((E.length+1)*64) 140737488355328)=true by simp;omega,ct,F,e1]
  have:=n3 S K
  rw[Az2,A1h] at this
  refine A12 ?_ this
  congr 1
theorem Avh (hN:4000≤N) (g:CaseG N c) (s:raw.length≤9223372036854775807) {P:List NodeD} (hP:P.length≤100) {z u:Int} {ba:Bool} {k:Nat} (v:k≤raw.length):LH (R:=R) N c raw f d gg i l m P (fun S K=>Nq N S K f c.av (Ap raw) raw.length d (k:Int) gg i l m z ba P.length u (P.flatMap NodeD.av)):=by
 have hh:=g.h;have L:=g.u
 have B:∀ (ap aq ar:Int) (k:Nat),k≤raw.length→LH (R:=R) N c raw f d gg i l m P (fun S K=>Rb N S K f c.av (Ap raw) raw.length d gg i l m z (k:Int) P.length u ap aq ar 0 (P.flatMap NodeD.av) []):=fun ap aq ar k v=>Anh hP v (E:=[]) ⟨by simp,by simp⟩
 cases ba
 ·obtain⟨x,A,x1,x2,x3,x4⟩:=nx (R:=R) (N:=N) (t:=false) (o:=d) s 4 (by omega) (by omega) k v
  obtain⟨n,rfl⟩:∃ n:Nat,x=n:=⟨x.toNat,by omega⟩
  obtain⟨e,j,nn,n1,n2,n3⟩:=Ani (R:=R) (c:=c) (f:=f) (d:=d) (gg:=gg) (i:=i) (l:=l) (m:=m) hN s hP (ae:=z) (ai:=u) n N A (-1) [] (by omega) x3 (by simp;omega) (by simp)
  refine⟨e,j,nn,n1,n2,fun S K=>?_⟩
  dsimp only
  unfold Nq Rt
  rw[cf,x4]
  exact n3 S K
 ·obtain⟨x,A,x1,x2,x3,x4⟩:=nx (R:=R) (N:=N) (t:=false) (o:=d) s (c.units.l.length:Int) (by omega) (by omega) k v
  by_cases C:u=3
  ·obtain⟨e,j,nn,n1,n2,n3⟩:=B x 0 0 A x3
   refine⟨e,j,nn,n1,n2,fun S K=>?_⟩
   dsimp only
   unfold Nq Rt
   rw[ct,Ef,x4,C,show((3:Int) != 3)=false from rfl,cf,show((3:Int)==4)=false from rfl,cf]
   rw[C] at n3
   exact n3 S K
  ·obtain⟨y,F,y1,y2,y3,y4⟩:=nx (R:=R) (N:=N) (t:=false) (o:=d) s c.hours (by omega) (by omega) A x3
   by_cases D:u=4
   ·obtain⟨w,G,T,U,w3,I⟩:=nx (R:=R) (N:=N) (t:=false) (o:=d) s (c.units.l.length:Int) (by omega) (by omega) F y3
    obtain⟨e,j,nn,n1,n2,n3⟩:=B x y w G w3
    refine⟨e,j,nn,n1,n2,fun S K=>?_⟩
    dsimp only
    unfold Nq Rt
    rw[ct,Ef,x4,D,show((4:Int) != 3)=true from rfl,ct,Jj,y4,show((4:Int)==4)=true from rfl,ct,Ef,I]
    rw[D] at n3
    exact n3 S K
   ·obtain⟨e,j,nn,n1,n2,n3⟩:=B x y 0 F y3
    refine⟨e,j,nn,n1,n2,fun S K=>?_⟩
    dsimp only
    unfold Nq Rt
    rw[ct,Ef,x4,show(u != 3)=true by simpa using C,ct,Jj,y4,show(u==4)=false by simpa using D,cf]
    exact n3 S K
theorem Avi (hN:4000≤N) (g:CaseG N c) (D:raw.length≤9223372036854775807) {P:List NodeD} (hP:P.length≤100) {al:Int} {k:Nat} (G:k≤raw.length):LH (R:=R) N c raw f d gg i l m P (fun S K=>Nr N S K f c.av (Ap raw) raw.length d gg i l m al (k:Int) P.length (P.flatMap NodeD.av)):=by
 obtain⟨x,j,x1,x2,x3,x4⟩:=nx (R:=R) (N:=N) (t:=false) (o:=d) D 7 (by omega) (by omega) k G
 obtain⟨n,rfl⟩:∃ n:Nat,x=n:=⟨x.toNat,by omega⟩
 have hn:n<7:=by omega
 have I:∀ v:Int,LH (R:=R) N c raw f d gg i l m P (fun S K=>Vz N S K f c.av (Ap raw) raw.length d (j:Int) gg i l m al P.length v (P.flatMap NodeD.av)):=fun v=>by
  have:∃ ba:Bool,∀ (S:Int→Int→Nat→LA→O R) (K:LA→O R),Vz N S K f c.av (Ap raw) raw.length d (j:Int) gg i l m al P.length v (P.flatMap NodeD.av)=Nq N S K f c.av (Ap raw) raw.length d (j:Int) gg i l m al ba P.length v (P.flatMap NodeD.av):=by
   unfold Vz UF
   cases s:(v==0)
   ·cases T:(v==3)
    ·exact⟨v==4,fun S K=>rfl⟩
    ·exact⟨true,fun S K=>rfl⟩
   ·exact⟨true,fun S K=>rfl⟩
  obtain⟨ba,e⟩:=this
  obtain⟨A,B,nn,n1,n2,n3⟩:=Avh (R:=R) (f:=f) (d:=d) (gg:=gg) (i:=i) (l:=l) (m:=m) hN g D hP (z:=al) (u:=v) (ba:=ba) x3
  exact⟨A,B,nn,n1,n2,fun S K=>by dsimp only;rw[e];exact n3 S K⟩
 have pre:∃ v:Int,∀ (S:Int→Int→Nat→LA→O R) (K:LA→O R),Nr N S K f c.av (Ap raw) raw.length d gg i l m al (k:Int) P.length (P.flatMap NodeD.av)=Vz N S K f c.av (Ap raw) raw.length d (j:Int) gg i l m al P.length v (P.flatMap NodeD.av):=by
  have rd:∃ w:Int,∀ F:Int→O R,As .i64 (drop (0+((Int.toNat (n:Int))*1)) [(.int .i64 1),(.int .i64 0),(.int .i64 2),(.int .i64 0),(.int .i64 3),(.int .i64 4),(.int .i64 1)]) F=F w:=by
   rw[Az1,A0b,A0g]
   rcases n with _ | _ | _ | _ | _ | _ | _ | n
   ·exact⟨_,fun F=>Ym⟩
   ·exact⟨_,fun F=>Ym⟩
   ·exact⟨_,fun F=>Ym⟩
   ·exact⟨_,fun F=>Ym⟩
   ·exact⟨_,fun F=>Ym⟩
   ·exact⟨_,fun F=>Ym⟩
   ·exact⟨_,fun F=>Ym⟩
   ·omega
  obtain⟨w,C⟩:=rd
  by_cases L:P.length>15
  ·by_cases s:w=0
   ·refine⟨1,fun S K=>?_⟩
    unfold Nr Yd
    rw[x4,Aa hn,ct,C,show(decide ((P.length:Int)>15)==true)=true by simp;omega,ct,s];rfl
   ·refine⟨w,fun S K=>?_⟩
    unfold Nr Yd
    rw[x4,Aa hn,ct,C,show(decide ((P.length:Int)>15)==true)=true by simp;omega,ct,show(w==0)=false by simpa using s];rfl
  ·refine⟨w,fun S K=>?_⟩
   unfold Nr Yd
   rw[x4,Aa hn,ct,C,show(decide ((P.length:Int)>15)==true)=false by simp;omega,cf]
 obtain⟨v,e⟩:=pre
 obtain⟨A,B,nn,n1,n2,n3⟩:=I v
 exact⟨A,B,nn,n1,n2,fun S K=>by dsimp only;rw[e];exact n3 S K⟩
end tree
theorem Aqy {N:Nat} {c:CaseD} (hN:4000≤N) (g:CaseG N c) {raw:List Int} (s:raw.length≤9223372036854775807) {f d:Bool} {U:List (Int×Int)} {C:List CutD}:∀ (m fuel k:Nat) (q:Int) (P:List NodeD),P.length+m=30→m<fuel→k≤raw.length→(∀ n ∈ P,aX 4 1000 n) →
  ∃ P':List NodeD,P'.length≤30∧(∀ n ∈ P',aX 4 1000 n)∧∀ K:LA→O R,Iz N K f c.av (Ap raw) raw.length d U.length C.length (U.flatMap Cc) (C.flatMap CutD.av) fuel q (k:Int) P.length (P.flatMap NodeD.av)=K (LogD.av ⟨.of U false false,.of C false false,.of P' false false⟩):=by
 intro m
 induction m with
 | zero =>
  intro fuel k q P t u j hP
  cases fuel with
  | zero=>omega
  | succ fuel =>
   refine⟨P,by omega,hP,fun K=>?_⟩
   have t1:take (U.length*2) (U.flatMap Cc)=U.flatMap Cc:=Az0 (by rw[Dm Fr];exact Az3 _)
   have t2:take (C.length*6) (C.flatMap CutD.av)=C.flatMap CutD.av:=Az0 (by rw[Dm D2];exact Az3 _)
   have t3:take (P.length*5) (P.flatMap NodeD.av)=P.flatMap NodeD.av:=Az0 (by rw[Dm B7];exact Az3 _)
   rw[Iz];unfold Ye
   rw[t1,t2,t3,show(cond true (decide ((P.length:Int)<30)) false:Bool)=false from decide_eq_false (by omega)]
   cases decide (q>0)<;>rfl
 | succ m v =>
  intro fuel k q P t u j hP
  cases fuel with
  | zero=>omega
  | succ fuel =>
   have t1:take (U.length*2) (U.flatMap Cc)=U.flatMap Cc:=Az0 (by rw[Dm Fr];exact Az3 _)
   have t2:take (C.length*6) (C.flatMap CutD.av)=C.flatMap CutD.av:=Az0 (by rw[Dm D2];exact Az3 _)
   have t3:take (P.length*5) (P.flatMap NodeD.av)=P.flatMap NodeD.av:=Az0 (by rw[Dm B7];exact Az3 _)
   by_cases hq:q>0
   ·obtain⟨z,A,n,n1,n2,n3⟩:=Avi (R:=R) (f:=f) (d:=d) (gg:=U.length) (i:=C.length) (l:=U.flatMap Cc) (m:=C.flatMap CutD.av) hN g s (P:=P) (by omega) (al:=q) j
    obtain⟨P',B,D,F⟩:=v fuel A z (P++[n]) (by rw[Az2,A0t];omega) (by omega) n2 (fun x e=>by
     rcases A0f.1 e with e | e
     ·exact hP x e
     ·rw[A01] at e;rw[e];exact n1)
    refine⟨P',B,D,fun K=>?_⟩
    rw[Iz];unfold Ye
    rw[decide_eq_true hq,show((true:Bool)==true)=true from rfl,ct,show(cond true (decide ((P.length:Int)<30)) false:Bool)=true from decide_eq_true (by omega),ct]
    refine A12 (n3 (Iz N K f c.av (Ap raw) raw.length d U.length C.length (U.flatMap Cc) (C.flatMap CutD.av) fuel) K) ?_
    have:=F K
    rw[Az2] at this
    exact this
   ·refine⟨P,by omega,hP,fun K=>?_⟩
    rw[Iz];unfold Ye
    rw[t1,t2,t3,decide_eq_false hq];rfl
theorem Avj {N:Nat} {c:CaseD} (hN:1000001<N) (g:CaseG N c) {raw:List Int} (e:raw.length≤9223372036854775807) {f d t:Bool}:∃ x:LogD,LogG 4 1000 x∧∀ K:LA→O R,gT N c.av f (Ap raw) raw.length t d K=K x.av:=by
 obtain⟨U,u1,u2⟩:=Ave (R:=R) hN g (raw:=raw) (a:=false) (b:=d) (d:=f)
 obtain⟨C,c1,j,k⟩:=Avf (R:=R) g e (gg:=f) (d:=d) (t:=false)
 obtain⟨P,n,q,s⟩:=Aqy (R:=R) (by omega) g e (f:=f) (d:=d) (U:=U) (C:=C) 30 N 0 1 [] rfl (by omega) (by omega) (by simp)
 refine⟨⟨.of U false false,.of C false false,.of P false false⟩,⟨u1,A1c c1 (by decide),A1c n (by decide),fun x u=>A1c (j x u) (by decide),q⟩,fun K=>?_⟩
 rw[nP];unfold gS
 rw[MB];unfold eQ
 rw[Hi,ct,De,u2,ct,k]
 exact s K
theorem Aqz {N:Nat} (hN:4096≤N) {c:CaseD} (g:JC c):CaseG N c:=by
 have m:=At4 g
 refine⟨Aqs hN g,hN,Aqx g,m.h,m.u,?_⟩
 obtain⟨H,e,bs,ls,us,ss,ts,os,b,og,j,rfl⟩:=g
 have:=og.l
 show os.length≤100
 omega
end
end Gx.Bl
namespace Gx.Bl
open Go Go.Proofs Gx.Cf
section
variable {R:Type}
theorem Avk {N:Nat} (hN:10<N) {v:RatD} {a b:Bool}:∃ r:Bool,(r=true→v.m≤4)∧∀ K:Bool→O R,rG N v.av 1 a b K=K r:=by
 have e1:∀ F:LA→Nat→O R,Aw 1 (drop 1 v.av) F=F (Ag v.ns.l) v.ns.l.length:=fun F=>by
  show Aw 1 (v.ns.av::[v.ds.av]) F=_
  cases v.ns<;>rfl
 have k:∀ F:LA→Nat→O R,Aw 1 (drop 2 v.av) F=F (Ag v.ds.l) v.ds.l.length:=fun F=>by
  show Aw 1 (v.ds.av::[]) F=_
  cases v.ds<;>rfl
 obtain⟨n,rfl⟩:∃ n,N=n+2:=⟨N - 2,by omega⟩
 refine⟨decide (v.ns.l.length≤4)&&decide (v.ds.l.length≤4),fun h=>?_,fun K=>?_⟩
 ·simp only[A0a,decide_eq_true_eq] at h
  exact Nat.max_le.2 h
 ·rw[rH];unfold pk
  rw[show decide (((1:Nat):Int)>30)=false from rfl,cf]
  rw[BA];unfold bV
  rw[show decide ((0:Int)<((1:Nat):Int))=true from rfl,ct,show Ae 0 1=true from rfl,ct]
  show Aw 1 (drop 1 v.av) _=_
  rw[e1]
  by_cases e:v.ns.l.length≤4
  ·rw[show(decide ((v.ns.l.length:Int)>4)==false)=true by rw[decide_eq_false (by omega)];rfl,ct,ct,decide_eq_true e,A1n]
   show Aw 1 (drop 2 v.av) _=_
   rw[k]
   by_cases j:v.ds.l.length≤4
   ·rw[show(cond false true (decide ((v.ds.l.length:Int)>4)):Bool)=false from decide_eq_false (by omega),cf,decide_eq_true j,BA];rfl
   ·rw[show(cond false true (decide ((v.ds.l.length:Int)>4)):Bool)=true from decide_eq_true (by omega),ct,decide_eq_false j]
  ·rw[show(decide ((v.ns.l.length:Int)>4)==false)=false by rw[decide_eq_true (by omega)];rfl,cf,decide_eq_false e];rfl
section light
variable {N:Nat} {x:LogD} {f:Bool}
theorem vL (hN:100<N) {i:Nat} (hi:i<x.nodes.l.length) (n:(x.nodes.l[i]).y.l.length≤12):∀ (m j fuel:Nat),j+m=(x.nodes.l[i]).y.l.length→m<fuel →
  ((∀ e ∈ (x.nodes.l[i]).y.l.drop j,e.v.m≤4)∧∀ (K2:Int→O R) (K:Bool→O R),Cw N K2 K f x.av fuel (i:Int) (j:Int)=K2 (wrap .i64 ((i:Int)+1)))∨∀ (K2:Int→O R) (K:Bool→O R),Cw N K2 K f x.av fuel (i:Int) (j:Int)=K false
 | 0,j,fuel+1,s,_=>by
  have rx:∀ F:LA→Nat→O R,Aw 5 (drop 2 x.av) F=F (x.nodes.l.flatMap NodeD.av) x.nodes.l.length:=fun F=>by
   show Aw 5 (x.nodes.av 5 NodeD.av::_) _=_
   rw[A2]
  refine .inl ⟨by rw[A0k (by omega)];simp,fun K2 K=>?_⟩
  rw[Cw];unfold P5
  rw[rx,Aa hi,ct,Em B7 hi]
  show Aw 4 ((x.nodes.l[i]).y.av 4 EntD.av::_) _=_
  rw[A2,H2 (by omega),cf]
 | m+1,j,fuel+1,s,B=>by
  have rx:∀ F:LA→Nat→O R,Aw 5 (drop 2 x.av) F=F (x.nodes.l.flatMap NodeD.av) x.nodes.l.length:=fun F=>by
   show Aw 5 (x.nodes.av 5 NodeD.av::_) _=_
   rw[A2]
  have h:j<(x.nodes.l[i]).y.l.length:=by omega
  obtain⟨r,t,u⟩:=Avk (R:=R) (N:=N) (by omega) (v:=((x.nodes.l[i]).y.l[j]).v) (a:=false) (b:=true)
  have l3:∀ (q:RatD) (r:LA),ble 3 (q.av++r).length=true:=fun q r=>by rw[Az2];show ble 3 (3+r.length)=true;simp
  have pre:∀ (K2:Int→O R) (K:Bool→O R),Cw N K2 K f x.av (fuel+1) (i:Int) (j:Int)=cond (!r) (K false) (Cw N K2 K f x.av fuel (i:Int) ((j+1:Nat):Int)):=fun K2 K=>by
   rw[Cw];unfold P5
   have z:drop 1 (drop (Int.toNat (j:Int)*4) ((x.nodes.l[i]).y.l.flatMap EntD.av))=((x.nodes.l[i]).y.l[j]).v.av++((x.nodes.l[i]).y.l.drop (j+1)).flatMap EntD.av:=by rw[Em G9 h];rfl
   have t3:∀ (q:RatD) (r:LA),take 3 (q.av++r)=q.av:=fun q r=>rfl
   rw[rx,Aa hi,ct,Em B7 hi]
   show Aw 4 ((x.nodes.l[i]).y.av 4 EntD.av::_) _=_
   rw[A2,Gh h,ct,rx,Aa hi,ct,Em B7 hi]
   show Aw 4 ((x.nodes.l[i]).y.av 4 EntD.av::_) _=_
   rw[A2,Aa h,ct,z,l3,ct,t3,show((beq (((x.nodes.l[i]).y.l[j]).v.av.length) 3)&&(ble 3 3))=true from rfl,ct,wS (by omega)]
   exact u _
  cases hr:r
  ·exact .inr fun K2 K=>by rw[pre,hr];rfl
  ·rcases vL hN hi n m (j+1) fuel (by omega) (by omega) with⟨e1,A⟩ | e
   ·refine .inl ⟨fun e k=>?_,fun K2 K=>by rw[pre,hr];exact A K2 K⟩
    rw[A0d h] at k
    rcases Az7.1 k with rfl | k
    ·exact t hr
    ·exact e1 e k
   ·exact .inr fun K2 K=>by rw[pre,hr];exact e K2 K
theorem nr (hN:100<N) (hn:x.nodes.l.length≤40):∀ (m i fuel:Nat),i+m=x.nodes.l.length→m<fuel→∃ r:Bool,(r=true→∀ n ∈ x.nodes.l.drop i,n.y.l.length≤12∧∀ e ∈ n.y.l,e.v.m≤4)∧∀ K:Bool→O R,Eb N K f x.av fuel (i:Int)=K r
 | 0,i,fuel+1,hi,_=>by
  have rx:∀ F:LA→Nat→O R,Aw 5 (drop 2 x.av) F=F (x.nodes.l.flatMap NodeD.av) x.nodes.l.length:=fun F=>by
   show Aw 5 (x.nodes.av 5 NodeD.av::_) _=_
   rw[A2]
  refine⟨true,fun _=>by rw[A0k (by omega)];simp,fun K=>?_⟩
  rw[Eb];unfold P6
  rw[rx,H2 (by omega),cf]
 | m+1,i,fuel+1,hi,u=>by
  have rx:∀ F:LA→Nat→O R,Aw 5 (drop 2 x.av) F=F (x.nodes.l.flatMap NodeD.av) x.nodes.l.length:=fun F=>by
   show Aw 5 (x.nodes.av 5 NodeD.av::_) _=_
   rw[A2]
  have h:i<x.nodes.l.length:=by omega
  have pre:∀ K:Bool→O R,Eb N K f x.av (fuel+1) (i:Int)=cond (decide ((((x.nodes.l[i]).y.l.length:Nat):Int)>12)) (K false) (Cw N (Eb N K f x.av fuel) K f x.av N (i:Int) ((0:Nat):Int)):=fun K=>by
   rw[Eb];unfold P6
   rw[rx,Gh h,ct,rx,Aa h,ct,Em B7 h]
   show Aw 4 ((x.nodes.l[i]).y.av 4 EntD.av::_) _=_
   rw[A2];rfl
  by_cases k:(x.nodes.l[i]).y.l.length≤12
  ·rcases vL (R:=R) (f:=f) hN h k (x.nodes.l[i]).y.l.length 0 N (by omega) (by omega) with⟨e1,q⟩ | e
   ·obtain⟨r,s,t⟩:=nr hN hn m (i+1) fuel (by omega) (by omega)
    refine⟨r,fun hr n j=>?_,fun K=>?_⟩
    ·rw[A0d h] at j
     rcases Az7.1 j with rfl | j
     ·exact⟨k,by simpa using e1⟩
     ·exact s hr n j
    ·rw[pre,decide_eq_false (by omega),cf,q,wS (by omega),t]
   ·exact⟨false,fun h=>(by cases h),fun K=>by rw[pre,decide_eq_false (by omega),cf,e]⟩
  ·exact⟨false,fun h=>(by cases h),fun K=>by rw[pre,decide_eq_true (by omega),ct]⟩
theorem vM (hN:100<N) (hn:x.nodes.l.length≤40) (s:x.cuts.l.length≤12):∀ (m i fuel:Nat),i+m=x.cuts.l.length→m<fuel→∃ r:Bool,(r=true→(∀ c ∈ x.cuts.l.drop i,c.units.l.length≤12)∧∀ n ∈ x.nodes.l,n.y.l.length≤12∧∀ e ∈ n.y.l,e.v.m≤4)∧∀ K:Bool→O R,Fn N K f x.av fuel (i:Int)=K r
 | 0,i,fuel+1,hi,_=>by
  have rx:∀ F:LA→Nat→O R,Aw 6 (drop 1 x.av) F=F (x.cuts.l.flatMap CutD.av) x.cuts.l.length:=fun F=>by
   show Aw 6 (x.cuts.av 6 CutD.av::_) _=_
   rw[A2]
  obtain⟨r,k,q⟩:=nr (R:=R) (f:=f) hN hn x.nodes.l.length 0 N (by omega) (by omega)
  refine⟨r,fun hr=>⟨by rw[A0k (by omega)];simp,by simpa using k hr⟩,fun K=>?_⟩
  rw[Fn];unfold P7
  rw[rx,H2 (by omega),cf]
  exact q K
 | m+1,i,fuel+1,hi,u=>by
  have rx:∀ F:LA→Nat→O R,Aw 6 (drop 1 x.av) F=F (x.cuts.l.flatMap CutD.av) x.cuts.l.length:=fun F=>by
   show Aw 6 (x.cuts.av 6 CutD.av::_) _=_
   rw[A2]
  have h:i<x.cuts.l.length:=by omega
  have pre:∀ K:Bool→O R,Fn N K f x.av (fuel+1) (i:Int)=cond (decide ((((x.cuts.l[i]).units.l.length:Nat):Int)>12)) (K false) (Fn N K f x.av fuel ((i+1:Nat):Int)):=fun K=>by
   rw[Fn];unfold P7
   rw[rx,Gh h,ct,rx,Aa h,ct,Em D2 h]
   show Aw 1 ((x.cuts.l[i]).units.av 1 Sh::_) _=_
   rw[KY,wS (by omega)]
  by_cases t:(x.cuts.l[i]).units.l.length≤12
  ·obtain⟨r,k,q⟩:=vM hN hn s m (i+1) fuel (by omega) (by omega)
   refine⟨r,fun hr=>⟨fun c j=>?_,(k hr).2⟩,fun K=>by rw[pre,decide_eq_false (by omega),cf,q]⟩
   rw[A0d h] at j
   rcases Az7.1 j with rfl | j
   ·exact t
   ·exact(k hr).1 c j
  ·exact⟨false,fun h=>(by cases h),fun K=>by rw[pre,decide_eq_true (by omega),ct]⟩
theorem Alr (hN:100<N) (k:∀ n ∈ x.nodes.l,∀ e ∈ n.y.l,e.v.ok):∃ r:Bool,(r=true→LogG 4 40 x)∧∀ K:Bool→O R,Xr N x.av f K=K r:=by
 have j:∀ F:LA→Nat→O R,Aw 2 x.av F=F (x.uses.l.flatMap Cc) x.uses.l.length:=fun F=>by
  show Aw 2 (x.uses.av 2 Cc::_) _=_
  rw[A2]
 have q:∀ F:LA→Nat→O R,Aw 6 (drop 1 x.av) F=F (x.cuts.l.flatMap CutD.av) x.cuts.l.length:=fun F=>by
  show Aw 6 (x.cuts.av 6 CutD.av::_) _=_
  rw[A2]
 have s:∀ F:LA→Nat→O R,Aw 5 (drop 2 x.av) F=F (x.nodes.l.flatMap NodeD.av) x.nodes.l.length:=fun F=>by
  show Aw 5 (x.nodes.av 5 NodeD.av::_) _=_
  rw[A2]
 by_cases C:x.uses.l.length≤20
 ·by_cases z:x.cuts.l.length≤12
  ·by_cases t:x.nodes.l.length≤40
   ·obtain⟨r,e1,A⟩:=vM (R:=R) (f:=f) hN t z x.cuts.l.length 0 N (by omega) (by omega)
    refine⟨r,fun hr=>?_,fun K=>?_⟩
    ·have:=e1 hr
     rw[A00] at this
     exact⟨by omega,by omega,t,fun c B=>A1c (this.1 c B) (by decide),fun n hn=>⟨A1c (this.2 n hn).1 (by decide),fun e u=>⟨k n hn e u,(this.2 n hn).2 e u⟩⟩⟩
    ·rw[Lg];unfold Kb
     rw[j,show(decide ((x.uses.l.length:Int)>20)==false)=true by rw[decide_eq_false (by omega)];rfl,ct,q,show(cond false true (decide ((x.cuts.l.length:Int)>12))==false)=true by rw[decide_eq_false (by omega)];rfl,ct,s,show(cond false true (decide ((x.nodes.l.length:Int)>40)):Bool)=false from decide_eq_false (by omega),cf]
     unfold Si Yr
     exact A K
   ·refine⟨false,fun h=>(by cases h),fun K=>?_⟩
    rw[Lg];unfold Kb
    rw[j,show(decide ((x.uses.l.length:Int)>20)==false)=true by rw[decide_eq_false (by omega)];rfl,ct,q,show(cond false true (decide ((x.cuts.l.length:Int)>12))==false)=true by rw[decide_eq_false (by omega)];rfl,ct,s,show(cond false true (decide ((x.nodes.l.length:Int)>40)):Bool)=true from decide_eq_true (by omega),ct]
  ·refine⟨false,fun h=>(by cases h),fun K=>?_⟩
   rw[Lg];unfold Kb
   rw[j,show(decide ((x.uses.l.length:Int)>20)==false)=true by rw[decide_eq_false (by omega)];rfl,ct,q,show(cond false true (decide ((x.cuts.l.length:Int)>12))==false)=false by rw[decide_eq_true (by omega)];rfl,cf]
 ·refine⟨false,fun h=>(by cases h),fun K=>?_⟩
  rw[Lg];unfold Kb
  rw[j,show(decide ((x.uses.l.length:Int)>20)==false)=false by rw[decide_eq_true (by omega)];rfl,cf]
end light
theorem LogG.mono {M M' B B':Nat} {x:LogD} (h:LogG M B x) (hM:M≤M') (hB:B≤B'):LogG M' B' x :=
 ⟨A1c h.uses hB,A1c h.cuts hB,A1c h.nodes hB,fun c k=>A1c (h.cut c k) hB,fun n hn=>⟨A1c (h.node n hn).1 hB,fun e j=>⟨((h.node n hn).2 e j).1,A1c ((h.node n hn).2 e j).2 hM⟩⟩⟩
theorem Anj (u:Nat):asc (dec u):=KS (Jk u)
theorem ig {ws:List Lu} (h:∀ w ∈ ws,asc w):asc (Uu ws):=fun c e=>by
 rcases kp e with rfl | ⟨w,j,k⟩
 ·decide
 ·exact h w j c k
theorem Wb (s:Lu) (l:List Int) (hs:asc s):∀ w ∈ s::l.map Ci,asc w:=by
 intro w e
 rcases Az7.1 e with rfl | e
 ·exact hs
 ·obtain⟨v,_,rfl⟩:=A04.1 e
  exact Anj _
theorem Ah2 (s:Lu) (l:List (Int×Rat)) (hs:asc s):∀ w ∈ s::l.map Pe,asc w:=by
 intro w e
 rcases Az7.1 e with rfl | e
 ·exact hs
 ·obtain⟨p,_,rfl⟩:=A04.1 e
  exact(Anj _).app (asc.app (a:=[58]) (by unfold asc;decide) (Ahk _))
theorem Ah3 (L:LogV):asc (T8 L):=by
 intro c e
 unfold T8 at e
 rw[A4i] at e
 obtain⟨l,j,e⟩:=e
 rcases A0f.1 e with e | e
 ·refine(show asc l from ?_) c e
  unfold Ac5 V8 ym at j
  simp only[Az7,A0f,A04] at j
  rcases j with rfl | ⟨x,_,rfl⟩ | ⟨x,_,rfl⟩ | ⟨x,_,rfl⟩
  ·exact ig (Wb ue [(L.uses.length:Int),(L.cuts.length:Int),(L.nodes.length:Int)] (by unfold asc;decide))
  ·exact ig (Wb Ahc [x.1,x.2] (by unfold asc;decide))
  ·refine ig ?_
   unfold pb
   split
   ·exact Wb KU [x.hour,x.unit,x.len] (by unfold asc;decide)
   ·exact Wb DW (x.hour::x.least::x.units) (by unfold asc;decide)
  ·refine ig ?_
   unfold iO
   split
   ·exact Wb Xm [x.unit,x.hour] (by unfold asc;decide)
   split
   ·exact Ah2 VK x.y (by unfold asc;decide)
   split
   ·exact Ah2 OX x.y (by unfold asc;decide)
   split
   ·exact Wb VL [x.unit] (by unfold asc;decide)
   ·exact Wb Y5 [x.unit,x.other,x.hour] (by unfold asc;decide)
 ·rw[A01] at e;rw[e];decide
def Azv:LogD:=⟨.nil,.nil,.of [⟨1,0,0,0,.of [⟨2,Abx (mkRat 3 4)⟩] false false⟩] false true⟩
def Aye:Lu:=[108,111,103,32,48,32,48,32,49,10,98,111,117,110,100,32,50,58,51,47,52,10]
theorem Ank:D5 (mkRat 3 4)=[51,47,52]:=by
 have e:(mkRat 3 4).num=3:=by decide
 have j:(mkRat 3 4).den=4:=by decide
 unfold D5
 rw[e,j,if_neg (by decide)]
 unfold V7 p_
 rw[if_neg (by decide)]
 show dec 3++[47]++dec 4=_
 rw[Gk (by decide),Gk (by decide)];rfl
theorem Anl:T8 Azv.v=Aye:=by
 have n0:Ci 0=[48]:=by unfold Ci;exact Gk (by decide)
 have n1:Ci 1=[49]:=by unfold Ci;exact Gk (by decide)
 have n2:Ci 2=[50]:=by unfold Ci;exact Gk (by decide)
 have e1:ym Azv.v=[108,111,103,32,48,32,48,32,49]:=by
  show Uu [ue,Ci 0,Ci 0,Ci 1]=_
  rw[n0,n1];rfl
 have e:Pe (2,mkRat 3 4)=[50,58,51,47,52]:=by
  unfold Pe
  rw[n2,Ank];rfl
 have e3:Azv.v.nodes=[⟨1,0,0,0,[(2,mkRat 3 4)]⟩]:=by
  show [(⟨1,0,0,0,[((2:Int),(Abx (mkRat 3 4)).q)]⟩:NodeV)]=_
  rw[Amx]
 unfold T8 Ac5 V8
 rw[e1,e3]
 show [108,111,103,32,48,32,48,32,49]++[10]++(Uu [VK,Pe (2,mkRat 3 4)]++[10]++[])=_
 rw[e];rfl
theorem At5:Alc Azv.v:=by
 have e3:Azv.v.nodes=[⟨1,0,0,0,[(2,mkRat 3 4)]⟩]:=by
  show [(⟨1,0,0,0,[((2:Int),(Abx (mkRat 3 4)).q)]⟩:NodeV)]=_
  rw[Amx]
 unfold Alc Ayk
 rw[e3]
 refine⟨⟨fun x e=>(by cases e),fun x e=>(by cases e),fun x e=>?_⟩,by show 0≤_;omega,by show 0≤_;omega,by decide⟩
 rw[A01] at e
 subst e
 refine .inr (.inl ⟨.inl rfl,rfl,rfl,rfl,fun p j=>?_⟩)
 rw[A01] at j
 subst j
 refine⟨by decide,by show mkRat 3 4≠0;decide,?_⟩
 rw[Ank];decide
theorem Aym:LogG 4 40 Azv:=by
 refine⟨by show 0≤_;omega,by show 0≤_;omega,by show 1≤_;omega,fun c q=>(by cases q),fun n hn=>?_⟩
 have j:n=⟨1,0,0,0,.of [⟨2,Abx (mkRat 3 4)⟩] false false⟩:=A01.1 hn
 subst j
 refine⟨by show 1≤_;omega,fun e s=>?_⟩
 have k:e=⟨2,Abx (mkRat 3 4)⟩:=A01.1 s
 subst k
 refine⟨Abz _,?_⟩
 have t:=Atv 3 4
 have u:(Al (3:Int).natAbs).length≤1:=Dn (by decide)
 have v:(Al 4).length≤1:=Dn (by decide)
 show(Abx (mkRat 3 4)).m≤4
 rw[Amy];omega
theorem vN {N:Nat} (j:fit 30000000 N) {K:Bool→O R}:Yl N K=K true:=by
 have A:=j.1
 obtain⟨s,e,h,hs⟩:=VP (R:=R) (N:=N) (M:=4) (f:=true) (Aym.mono (Az3 _) (by decide)) (j.le (by decide)) (by omega)
 have k:OY Aye=some Azv.v:=OZ.2 ⟨Anl.symm,At5,by decide⟩
 rw[QZ];unfold PB
 rw[tU (by decide) (by decide) (by omega)]
 show cond true (cond true (Hu N Azv.av true _) none) none=_
 rw[ct,ct,hs]
 rcases h with⟨n,q,_⟩ | ⟨_,_,t⟩
 ·rcases dX (R:=R) (N:=N) (s:=Aye) (by unfold Aye;decide) j with⟨y,y1,y2,y3⟩ | ⟨y1,_⟩
  ·refine A12 (y3 _) ?_
   rw[k] at y2
   have u:Azv.v=y.v:=A5o y2
   have z:y.nodes.l.length=1:=by
    have:=congrArg (fun L:LogV=>L.nodes.length) u
    simp only[LogD.v,A03] at this
    rw[←this];rfl
   rw[n,q,Anl,show((beq 0 0)&&((beq (y.av.length) 3)&&(beq 3 3)))=true from rfl,ct,show((Aye==([108,111,103,32,48,32,48,32,49,10,98,111,117,110,100,32,50,58,51,47,52,10]:Lu))==true)=true from rfl,ct,show((cond true ((0:Int)==0) false:Bool)==true)=true from rfl,ct,ct,ct]
   show Aw 5 (y.nodes.av 5 NodeD.av::_) _=_
   rw[A2,z];rfl
  ·rw[k] at y1;cases y1
 ·exact absurd ⟨At5,by rw[Anl];decide⟩ t
theorem zG {N:Nat} (j:fit 30000000 N) {s:Lu} (hs:asc s) (u:s.length≤1048576) {k:List Int} (v:k.length≤12) {e d:Bool} {K:Bool→O R}:B8 N K (Ap k) k.length e d s=K true:=by
 have F:=j.1
 obtain⟨t,t1,t2⟩:=Ah1 (R:=R) (N:=N) (g:=false) (i:=d) (by omega) v hs u
 unfold B8
 rw[t2]
 rcases dX (R:=R) (N:=N) t1 j with⟨y,y1,y2,y3⟩ | ⟨_,at_,er,y2,y3⟩
 ·obtain⟨q,z,A⟩:=OZ.1 y2
  obtain⟨G,I,h,n⟩:=VP (R:=R) (N:=N) (M:=4097) (f:=false) (y1.mono (Az3 _) (by decide)) (j.le (by decide)) (by omega)
  rw[y3,show((beq 0 0)&&((beq (y.av.length) 3)&&(beq 3 3)))=true from rfl,ct,show((0:Int) != 0)=false from rfl,cf,show ble 3 y.av.length=true from rfl,ct,show take 3 y.av=y.av from rfl,n,vN j]
  rcases h with⟨B,C,_⟩ | ⟨_,_,D⟩
  ·rw[B,C,←q,show((true:Bool)==true)=true from rfl,ct,show((cond true ((0:Int)==0) false:Bool)==true)=true from rfl,ct,show(cond true (t==t) false:Bool)=true by simp]
  ·exact absurd ⟨z,by rw[←q];exact A⟩ D
 ·rw[y3,show((beq 0 0)&&((beq (List.length At2) 3)&&(beq 3 3)))=true from rfl,ct,show(er != 0)=true by rw[bne,y2];rfl,ct,vN j]
theorem Ah4 {N:Nat} (j:fit 30000000 N) {x:LogD} (t:LogG 4 1000 x) {k:List Int} (u:k.length≤12) {e d a:Bool} {K:Bool→O R} :
  (Hu N x.av a fun ag aq=>cond (aq==0) (Nw N ag fun ah ar au=>cond ((beq 0 0)&&((beq (ah.length) 3)&&(beq 3 3))) (cond ((au != 0)==false) (cond ((cond false true (ar != 0))==false) (cond (ble 3 (ah.length)) (D_ N x.av a (ah.take 3) false fun av=>cond (cond false true (!av)) (K false) (B8 N K (Ap k) k.length e d ag)) none) (K false)) (K false)) none) (B8 N K (Ap k) k.length e d ag))=K true:=by
 have D:=j.1
 obtain⟨s,er,h,hs⟩:=VP (R:=R) (N:=N) (M:=4) (f:=a) (t.mono (Az3 _) (by decide)) (j.le (by decide)) (by omega)
 rw[hs]
 rcases h with⟨n,q,B,z⟩ | ⟨n,q,_⟩
 ·subst n q
  rw[show((0:Int)==0)=true from rfl,ct]
  have A:OY (T8 x.v)=some x.v:=OZ.2 ⟨rfl,B,z⟩
  rcases dX (R:=R) (N:=N) (Ah3 x.v) j with⟨y,y1,y2,y3⟩ | ⟨y1,_⟩
  ·rw[A] at y2
   rw[y3,show((beq 0 0)&&((beq (y.av.length) 3)&&(beq 3 3)))=true from rfl,ct,show(((0:Int) != 0)==false)=true from rfl,ct,show((cond false true ((0:Int) != 0):Bool)==false)=true from rfl,ct,show ble 3 y.av.length=true from rfl,ct,show take 3 y.av=y.av from rfl,Aqv (M:=4097) (t.mono (by decide) (by decide)) (y1.mono (Az3 _) (by decide)) (A5o y2) (j.le (by decide)) (by omega),show(cond false true (!true):Bool)=false from rfl,cf]
   exact zG j (Ah3 _) z u
  ·rw[A] at y1;cases y1
 ·rw[q,cf,n]
  exact zG j (by intro c C;cases C) (by simp) u
theorem Axb {N:Nat} {a b:List Int} {e f i l:Bool} {K:Bool→O R}:eI N (Ap a) a.length e f (Ap b) b.length i l K=K (decide (a.length≤200)&&decide (b.length≤200)):=by
 rw[eJ];unfold jT
 by_cases j:a.length≤200
 ·rw[show(decide ((a.length:Int)≤200)==true)=true by simp;omega,ct,decide_eq_true j,A1n]
  congr 1
  show decide ((b.length:Int)≤200)=_
  rw[decide_eq_decide];omega
 ·rw[show(decide ((a.length:Int)≤200)==true)=false by simp;omega,cf,decide_eq_false j];rfl
theorem Als {N:Nat} (k:fit 30000000 N) {la lb j:List Int} {ab w ac z e d:Bool} {U:List (Int×Int)} {C:List CutD} {P:List NodeD} {r f s g t i aa:Bool} (q:∀ n ∈ P,∀ e ∈ n.y.l,e.v.ok) {K:Bool→O R} :
  Im N (Ap la) la.length ab w (Ap lb) lb.length ac z (Ap j) j.length e d (U.flatMap Cc) U.length r f (C.flatMap CutD.av) C.length s g (P.flatMap NodeD.av) P.length t i aa K=K true:=by
 have F:=k.1
 have ex:([(.imm (U.flatMap Cc) U.length 2 false f),(.imm (C.flatMap CutD.av) C.length 6 false g),(.imm (P.flatMap NodeD.av) P.length 5 false i)]:LA)=LogD.av ⟨.of U false f,.of C false g,.of P false i⟩:=rfl
 obtain⟨lr,l1,l2⟩:=Alr (R:=R) (N:=N) (x:=⟨.of U false f,.of C false g,.of P false i⟩) (f:=(f||(g||(i||false)))) (by omega) q
 rw[P0];unfold He
 rw[Axb]
 by_cases A:la.length≤200∧lb.length≤200
 ·rw[decide_eq_true A.1,decide_eq_true A.2,show((!(true&&true))==false)=true from rfl,ct]
  by_cases B:j.length≤12
  ·rw[show((cond false true (decide ((j.length:Int)>12)))==false)=true by rw[decide_eq_false (by omega)];rfl,ct,ex,l2]
   cases u:lr
   ·rfl
   ·rw[show(cond false true (!true):Bool)=false from rfl,cf]
    unfold Fw I8
    cases aa
    ·rw[cf]
     unfold Jr I7
     rw[ex]
     exact Ah4 k ((l1 u).mono (Az3 _) (by decide)) B
    ·rw[ct]
     obtain⟨c,c1,D⟩:=Aas (R:=R) (N:=N) (l:=la) (n:=la.length) (t:=false) (o:=w) rfl (by omega) (by omega)
     obtain⟨y,y1,y2⟩:=Avj (R:=R) (N:=N) (c:=c) (by omega) (Aqz (by omega) c1) (raw:=lb) (by omega) (f:=false) (d:=z) (t:=false)
     rw[D,y2,show((beq 0 0)&&((beq (y.av.length) 3)&&(beq 3 3)))=true from rfl,ct]
     unfold Jq I6
     exact Ah4 k y1 B
  ·rw[show((cond false true (decide ((j.length:Int)>12)))==false)=false by rw[decide_eq_true (by omega)];rfl,cf]
 ·rw[show((!(decide (la.length≤200)&&decide (lb.length≤200)))==false)=false by
   have:(decide (la.length≤200)&&decide (lb.length≤200))=false:=by simp;omega
   rw[this];rfl,cf]
end
end Gx.Bl
