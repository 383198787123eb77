/- A part of the proof; each theorem says what it holds. -/
import Derived.Lib.ItoaNum
import Derived.Shelf.Strings.Repeat
import Derived.Shelf.Strings.Split
import Derived.Shelf.Strings.Cut
import Derived.Shelf.Strconv.AtoiAll
import Derived.Shelf.Strconv.Itoa3
import Derived.Shelf.LaysM
import Derived.Shelf.LaysC
import Derived.Lib.RepeatB
import Derived.Test.YtnlplnjnonldpaaGreatDoorP1
set_option linter.unusedVariables false
set_option linter.defProp false
set_option linter.unusedSimpArgs false
open Nat (ble beq)
open List (take drop replicate)
open Go.IntKind (wrap)
namespace Gx.Cf
open Go Go.Proofs
section
variable {R:Type}
def Amg (c:CaseD) (j:Nat) (u:UnitD) (p:Hz):Hz :=
 let p:=CP ((c.units.l.map (·.name)).take j) 3 j u.name p
 let p:=nd p (Y_ c u.bus) (3,j,1) Aoc
 let p:=nd p (Fe 0 1048576 u.min) (3,j,2) e3
 let p:=nd p (Fe u.min 1048576 u.max) (3,j,3) e3
 let p:=Aof u j p
 let p:=nd p (Fe 0 1048576 u.noLoad) (3,j,5) e3
 let p:=nd p (Fe 0 1048576 u.rampUp) (3,j,6) e3
 let p:=nd p (Fe 0 1048576 u.rampDown) (3,j,7) e3
 let p:=nd p (Fe u.min u.max u.startRamp) (3,j,8) e3
 let p:=nd p (Fe u.min u.max u.stopRamp) (3,j,9) e3
 let p:=nd p (Fe 0 24 u.upTime) (3,j,10) e3
 nd p (Fe 0 24 u.downTime) (3,j,11) e3
def Ar2 (c:CaseD) (j:Nat) (u:UnitD) (p:Hz):Hz :=
 let p:=nd p (Fe 0 24 u.startTime) (3,j,12) e3
 let p:=nd p (Fe 0 1048576 u.hotCost) (3,j,13) e3
 let p:=nd p (Fe 0 1048576 u.coldCost) (3,j,14) e3
 let p:=nd p (Fe 0 24 u.hotHours) (3,j,15) e3
 let p:=nd p (Fe 0 1048576 u.reserve) (3,j,16) e3
 let p:=nd p (Fe 0 1048576 u.reservePrice) (3,j,17) e3
 let p:=fA c.hours u.away.l (3,j,18) p
 let p:=nd p (Fe 0 2 u.state) (3,j,19) Aoc
 let p:=nd p (u.state != 1||decide (u.startTime>0)) (3,j,19) Axg
 let p:=nd p (Fe 1 48 u.hours) (3,j,20) e3
 let p:=nd p (u.state != 1||decide (u.hours≤u.startTime)) (3,j,20) e3
 cond (u.state==2) (nd p (Fe u.min u.max u.output) (3,j,21) e3) (nd p (u.output==0) (3,j,21) e3)
theorem Axq (n:Int):Fe 0 0 n=(n==0):=by
 unfold Fe
 by_cases h:n=0
 ·simp[h]
 ·have:(n==0)=false:=by simpa using h
  rw[this];simp;omega
theorem Aui {c:CaseD} {j:Nat} {u:UnitD} {p:Hz}:Ar2 c j u (Amg c j u p)=r_ c j u p:=by
 show _=(let p:=nd (Amg c j u p) (Fe 0 24 u.startTime) (3,j,12) e3
  let p:=nd p (Fe 0 1048576 u.hotCost) (3,j,13) e3
  let p:=nd p (Fe 0 1048576 u.coldCost) (3,j,14) e3
  let p:=nd p (Fe 0 24 u.hotHours) (3,j,15) e3
  let p:=nd p (Fe 0 1048576 u.reserve) (3,j,16) e3
  let p:=nd p (Fe 0 1048576 u.reservePrice) (3,j,17) e3
  let p:=fA c.hours u.away.l (3,j,18) p
  let p:=nd p (Fe 0 2 u.state) (3,j,19) Aoc
  let p:=nd p (u.state != 1||u.startTime != 0) (3,j,19) Axg
  let p:=nd p (Fe 1 48 u.hours) (3,j,20) e3
  let p:=nd p (u.state != 1||decide (u.hours≤u.startTime)) (3,j,20) e3
  cond (u.state==2) (nd p (Fe u.min u.max u.output) (3,j,21) e3) (nd p (Fe 0 0 u.output) (3,j,21) e3))
 unfold Ar2
 rw[Axq]
 cases hq:nd (Amg c j u p) (Fe 0 24 u.startTime) (3,(j:Int),12) e3 with
 | some x=>simp only[Aug,fA]
 | none =>
  have e:Fe 0 24 u.startTime=true:=by
   cases k:Fe 0 24 u.startTime with
   | true=>rfl
   | false =>
    rw[k] at hq
    cases n:Amg c j u p<;>rw[n] at hq<;>simp[nd] at hq
  have:decide (u.startTime>0)=(u.startTime != 0):=by
   unfold Fe at e
   simp at e
   by_cases h:u.startTime=0
   ·simp[h]
   ·have q:(u.startTime != 0)=true:=by simpa using h
    rw[q];simp;omega
  rw[this]
theorem RD {N:Nat} {c:CaseD} {p:Hz} {o:Bool} {j:Nat} {K:LA→O R} (hs:Small c N) (h:j<c.units.l.length) :
  Ji N c.av o (j:Int) (Ct p) K=K (Ct (r_ c j c.units.l[j] p)):=by
 have hN:=hs.n64
 have hN8:8≤N:=by omega
 have e:=hs.uni
 have v:=hs.top
 have z:c.units.l[j] ∈ c.units.l:=A0l h
 have A:=hs.seg _ z;have s:=hs.uaw _ z
 have q:=@Dj R N c (c.units.l.map (·.name)) o (k:=3) (n:=j) (hN:=hN) (hL:=fun K=>mJ hs) (hn:=by simpa using h) (hs:=⟨by have:=e.1;omega,by have:=e.2;omega⟩)
 have t:(c.units.l.map (·.name))[j]'(by simpa using h)=c.units.l[j].name:=by simp
 rw[t] at q
 rw[Xx];unfold Mj Jc M8 Pa
 rw[Ef,Aa h,ct,Az1,Be Oc _ _ h]
 generalize c.units.l[j]=b at *
 have b1:ble 22 (List.length (b.av++List.flatMap UnitD.av (drop (j+1) c.units.l)))=true:=by rw[Ep,Az2,Oc];simp
 have B:take 22 (b.av++List.flatMap UnitD.av (drop (j+1) c.units.l))=b.av:=A2k (Oc b)
 rw[b1,ct,B,Oc]
 have u:∀ (p:Hz) (K:LA→O R),Dx N [.str b.name,.int .i64 b.bus,.int .i64 b.min,.int .i64 b.max,b.segs.av 2 SegD.av,.int .i64 b.noLoad,.int .i64 b.rampUp,.int .i64 b.rampDown,.int .i64 b.startRamp,.int .i64 b.stopRamp,.int .i64 b.upTime,.int .i64 b.downTime,.int .i64 b.startTime,.int .i64 b.hotCost,.int .i64 b.coldCost,.int .i64 b.hotHours,.int .i64 b.reserve,.int .i64 b.reservePrice,b.away.av 1 Sh,.int .i64 b.state,.int .i64 b.hours,.int .i64 b.output] o j (Ct p) K=K (Ct (Aof b j p)):=fun p K=>EF hN8 A
 simp only[De,q,UnitD.av,A1b,A00,A4s,A2q,Br,A2,Ft,Ep,zo,decide_true,A19,cond_true,cond_false,Az3]
 simp only[H3 hN8 (show c.buses.l.length<4611686018427387904 by omega),Dp hN8,Ai (show(3:Int)≠0 by decide),Ai (show(12:Int)≠0 by decide),Ai (show(16:Int)≠0 by decide),u,Ul rfl s]
 rw[←Aui]
 unfold Ar2
 by_cases s1:b.state=1
 ·simp[s1];rfl
 ·have a4:(b.state != 1)=true:=by simpa using s1
  rw[a4]
  cases b.state==2<;>rfl
theorem JA {N:Nat} {c:CaseD} {p:Hz} {o:Bool} {j:Nat} {K:LA→O R} (hs:Small c N) (h:j<c.outs.l.length) :
  Gv N c.av o (j:Int) (Ct p) K=K (Ct (Aey c j c.outs.l[j] p)):=by
 have hN:=hs.n64
 have hN8:8≤N:=by omega
 have e:=hs.out
 have q:=hs.top
 have v:c.outs.l[j] ∈ c.outs.l:=A0l h
 have B:=hs.oli _ v;have s:=hs.omo _ v;have z:=hs.omb _ v
 have t:=@Dj R N c (c.outs.l.map (·.name)) o (k:=6) (n:=j) (hN:=hN) (hL:=fun K=>rf hs) (hn:=by simpa using h) (hs:=⟨by have:=e.1;omega,by have:=e.2;omega⟩)
 have A:(c.outs.l.map (·.name))[j]'(by simpa using h)=c.outs.l[j].name:=by simp
 rw[A] at t
 rw[Sz];unfold Jd Hd Kn
 rw[Ob,Aa h,ct,Az1,Be Li _ _ h]
 generalize c.outs.l[j]=b at *
 have b1:ble 4 (List.length (b.av++List.flatMap OutD.av (drop (j+1) c.outs.l)))=true:=by rw[Ep,Az2,Li];simp
 have C:take 4 (b.av++List.flatMap OutD.av (drop (j+1) c.outs.l))=b.av:=A2k (Li b)
 rw[b1,ct,C,Li]
 have l1:=fun p=>X1 (R:=R) (N:=N) (c:=c) (i:=j) (u:=b) (o:=o) (p:=p) (K:=K) hN8 q.2.2.1 s z b.moves.l.length 0 N (by omega) s.1
 simp only[A2q,A3n,A2u,Ap] at l1
 simp only[zo,decide_true,A19,cond_true,Hi,De,t,Auh,Amf,Awm,Dp hN8,Gi rfl B,Ys rfl B,Pl,Ai (show(4:Int)≠0 by decide),Ai (show(8:Int)≠0 by decide),Ai (show(11:Int)≠0 by decide),Ai (show(12:Int)≠0 by decide),Ai (show(16:Int)≠0 by decide),l1]
 have a1:Fe 1 2 (b.lines.l.length:Int)=((b.lines.l.length:Int)==1||(b.lines.l.length:Int)==2):=by
  unfold Fe
  by_cases x1:b.lines.l.length=1
  ·simp[x1]
  ·by_cases x2:b.lines.l.length=2
   ·simp[x2]
   ·have y1:((b.lines.l.length:Int)==1)=false:=by simp;omega
    have y2:((b.lines.l.length:Int)==2)=false:=by simp;omega
    rw[y1,y2];simp;omega
 have a2:b.lines.l.all (Fe 0 (wrap .i64 ((c.lines.l.length:Int) - 1)))=b.lines.l.all fun n=>decide (0≤n)&&decide (n<(c.lines.l.length:Int)):=by
  congr 1;funext n;exact Ajd _ _ (by omega)
 rw[a1,a2]
 unfold Aey Aae
 cases b.corr
 ·simp
 ·simp
end
end Gx.Cf
namespace Gx.Cf
inductive Conn (es:List (Nat×Nat)):Nat→Nat→Prop
 | refl (a:Nat):Conn es a a
 | fwd {u v b:Nat}:(u,v) ∈ es→Conn es v b→Conn es u b
 | bwd {u v b:Nat}:(u,v) ∈ es→Conn es u b→Conn es v b
theorem Conn.trans {es:List (Nat×Nat)} {a b c:Nat} (n:Conn es a b) (e:Conn es b c):Conn es a c:=by
 induction n with
 | refl=>exact e
 | fwd j _ k=>exact .fwd j (k e)
 | bwd j _ k=>exact .bwd j (k e)
theorem Conn.symm {es:List (Nat×Nat)} {a b:Nat} (h:Conn es a b):Conn es b a:=by
 induction h with
 | refl=>exact .refl _
 | fwd e _ j=>exact j.trans (.bwd e (.refl _))
 | bwd e _ j=>exact j.trans (.fwd e (.refl _))
theorem Conn.mono {es fs:List (Nat×Nat)} (hs:∀ e ∈ es,e ∈ fs) {a b:Nat} (h:Conn es a b):Conn fs a b:=by
 induction h with
 | refl=>exact .refl _
 | fwd j _ k=>exact .fwd (hs _ j) k
 | bwd j _ k=>exact .bwd (hs _ j) k
def mK (es:List (Nat×Nat)) (b:Nat):Prop:=∀ a,a<b→¬ Conn es a b
open Classical in
noncomputable def X2 (n:Nat) (es:List (Nat×Nat)):Nat:=((List.range n).filter fun b=>decide (mK es b)).length
theorem Ajf {n:Nat} {es fs:List (Nat×Nat)} (h:∀ e ∈ es,e ∈ fs):X2 n fs≤X2 n es:=by
 unfold X2
 have:∀ (l:List Nat),(l.filter fun b=>@decide (mK fs b) (Classical.propDecidable _)).length≤(l.filter fun b=>@decide (mK es b) (Classical.propDecidable _)).length:=by
  intro l
  induction l with
  | nil=>simp
  | cons a r j =>
   rw[A3l,A3l]
   by_cases x:mK fs a
   ·have:mK es a:=fun b k q=>x b k (q.mono h)
    simp[x,this,j]
   ·by_cases y:mK es a<;>simp[x,y]<;>omega
 exact this _
def Pm (n:Nat):List Int:=(List.range n).map fun b:Nat=>(b:Int)
theorem xt {n a:Nat} (h:a<n):(Pm n).getD a 0=(a:Int):=by
 rw[A0e,Pm,A3c,List.getElem?_range h];rfl
structure LeastOk (n:Nat) (es:List (Nat×Nat)) (L:List Int):Prop where
 len:L.length=n
 low:∀ b,b<n→0≤L.getD b 0∧L.getD b 0≤b
 con:∀ b,b<n→Conn es (L.getD b 0).toNat b
def Amh (es:List (Nat×Nat)) (L:List Int):Prop:=∀ e ∈ es,L.getD e.1 0=L.getD e.2 0
def Auj (L:List Int):Nat:=((List.range L.length).filter fun b=>L.getD b 0==(b:Int)).length
theorem mL {n:Nat} {es:List (Nat×Nat)} {L:List Int} (h:LeastOk n es L) (t:Amh es L) (u:∀ e ∈ es,e.1<n∧e.2<n):Auj L=X2 n es:=by
 unfold Auj X2
 rw[h.len]
 congr 1
 apply List.filter_congr
 intro b k
 have k:b<n:=by simpa using k
 have conn_eq:∀ a b,Conn es a b→L.getD a 0=L.getD b 0:=by
  intro a b q
  induction q with
  | refl=>rfl
  | fwd j _ s=>exact(t _ j).trans s
  | bwd j _ s=>exact(t _ j).symm.trans s
 have v:=h.low b k
 by_cases x:L.getD b 0=(b:Int)
 ·have:mK es b:=fun a z q=>by
   have e:=conn_eq a b q
   have:=(h.low a (by omega)).2
   omega
  have x':(L.getD b 0==(b:Int))=true:=by simpa using x
  rw[x'];simp[this]
 ·have x':(L.getD b 0==(b:Int))=false:=by simpa using x
  have:¬ mK es b:=fun j=>j (L.getD b 0).toNat (by omega) (h.con b k)
  rw[x'];simp[this]
end Gx.Cf
namespace Gx.Cf
open Go Go.Proofs
section
variable {R:Type}
theorem MT {l:List Int} {j:Nat} (h:j<l.length):l.getD j 0=l[j]:=by rw[A0e,Az6 h];rfl
theorem xu {x:Int} {n:Nat} (e:0≤x) (j:x.toNat<n):Ae x n=true:=by simp[Ae];omega
theorem Ar3 {l:List Int} {x:Int} (h:x.toNat<l.length) {f:Int→O R}:As .i64 (drop (0+((Int.toNat x)*1)) (Ap l)) f=f (l.getD x.toNat 0):=by
 rw[A0g,A0b,Hy h,MT h]
theorem fC (l:List Int) (j:Nat) (v:Int):List.set (Ap l) j (.int .i64 v)=Ap (l.set j v):=by simp[Ap,A6a]
theorem Aaf {l:List Int} {x:Nat} (h:x<l.length):((beq 1 1)&&((ble ((0+(x*1))+1) (List.length (Ap l)))&&(!false)))=true:=by
 rw[zo,Ep,Dw];simp;omega
def Hj (c:CaseD) (l:Int):Nat×Nat:=match c.lines.l[l.toNat]? with
 | some x=>(x.fr.toNat,x.tl.toNat)
 | none=>(0,0)
structure LnV (c:CaseD) (l:Int) (x:LineD):Prop where
 l0:0≤l
 lt:l.toNat<c.lines.l.length
 at':c.lines.l[l.toNat]?=some x
 f0:0≤x.fr
 f1:x.fr.toNat<c.buses.l.length
 t0:0≤x.tl
 t1:x.tl.toNat<c.buses.l.length
theorem Ami {c:CaseD} {l:Int} {x:LineD} (h:LnV c l x):Hj c l=(x.fr.toNat,x.tl.toNat):=by unfold Hj;rw[h.at']
theorem Axr {c:CaseD} {l:Int} {x:LineD} (h:LnV c l x) {f:Int→O R}:As .i64 (drop 1 (drop ((Int.toNat l)*12) (c.lines.l.flatMap LineD.av))) f=f x.fr:=by
 have e:c.lines.l[l.toNat]'h.lt=x:=by have:=h.at';rw[Az6 h.lt] at this;simpa using this
 rw[Be Gj _ _ h.lt,e];simp[LineD.av,Br]
theorem Axs {c:CaseD} {l:Int} {x:LineD} (h:LnV c l x) {f:Int→O R}:As .i64 (drop 2 (drop ((Int.toNat l)*12) (c.lines.l.flatMap LineD.av))) f=f x.tl:=by
 have e:c.lines.l[l.toNat]'h.lt=x:=by have:=h.at';rw[Az6 h.lt] at this;simpa using this
 rw[Be Gj _ _ h.lt,e];simp[LineD.av,Br]
theorem Ajg {L:List Int} {n j:Nat} (q:L.length=n) (h:j<n):((Pm n).take j++L.drop j).set j (j:Int)=(Pm n).take (j+1)++L.drop (j+1):=by
 have hi:(Pm n).length=n:=by simp[Pm]
 have e:(Pm n)[j]'(by omega)=(j:Int):=by simp[Pm]
 have k:j - ((Pm n).take j).length=0:=by simp[hi];omega
 rw[A4f _ _ (by simp;omega),k,A02 (by omega),Ju (l:=L) (by omega),e,List.set_cons_zero,A10];rfl
def j6 (h:Int):List LineD→Nat→List Int
 | [],_=>[]
 | x::r,j=>cond (x.away.l.contains h) (j6 h r (j+1)) ((j:Int)::j6 h r (j+1))
theorem JB (h:Int):∀ (l:List LineD) (j:Nat),(j6 h l j).length≤l.length
 | [],_=>by simp[j6]
 | x::r,j=>by rw[j6];have:=JB h r (j+1);cases x.away.l.contains h<;>simp<;>omega
theorem Ae0 (h:Int):∀ (l:List LineD) (j:Nat) (a:Int),a ∈ j6 h l j→(j:Int)≤a∧a<j+l.length
 | [],_,_,e=>by simp[j6] at e
 | x::r,j,a,e=>by
  rw[j6] at e
  have k:=Ae0 h r (j+1) a
  cases n:x.away.l.contains h<;>rw[n] at e<;>simp at e
  ·rcases e with rfl | e
   ·simp;omega
   ·have:=k e;simp at this ⊢;omega
  ·have:=k e;simp at this ⊢;omega
def A1 (c:CaseD) (h:Int):List Int:=j6 h c.lines.l 0
theorem Aag {A B:List Int} {n:Nat} (h:n=A.length):(take (n*1) (Ap A))++Ap B=Ap (A++B):=by
 rw[A0b,Az0 (by simp[Dw,h]),SC]
theorem SU {N:Nat} {c:CaseD} {h:Int} {o:Bool} {K:Nat→LA→O R} (hs:Small c N):∀ (m j fuel:Nat) (A:List Int),j+m=c.lines.l.length→m<fuel→A.length≤j →
  E3 N K h o c.av fuel A.length (j:Int) (Ap A)=K (A++j6 h (c.lines.l.drop j) j).length (Ap (A++j6 h (c.lines.l.drop j) j))
 | 0,j,fuel+1,A,s,_,_=>by
  rw[E3];unfold Ml
  rw[Pl,H2 (by omega),cf,Pk (l:=c.lines.l) (by omega),j6,A1y]
 | m+1,j,fuel+1,A,s,D,hA=>by
  rw[E3];unfold Ml
  have e:j<c.lines.l.length:=by omega
  have q:=hs.top.2.1
  have t:c.lines.l[j] ∈ c.lines.l:=A0l e
  have u:=hs.law _ t
  simp only[Pl]
  rw[Gh e,ct,Aa e,ct,Az1,Be Gj _ _ e,Ju (l:=c.lines.l) e,j6]
  have k:=SU (N:=N) (c:=c) (h:=h) (o:=o) (K:=K) hs m (j+1) fuel (A++[(j:Int)]) (by omega) (by omega) (by simp;omega)
  have n:=SU (N:=N) (c:=c) (h:=h) (o:=o) (K:=K) hs m (j+1) fuel A (by omega) (by omega) (by omega)
  generalize c.lines.l[j]=b at *
  have v:(ble (A.length+1) 140737488355328&&ble ((A.length+1)*8) 140737488355328)=true:=by rw[Ep,Ep];simp;omega
  have z:∀ (r:LA) (f:LA→Nat→O R),Aw 1 (drop 11 (b.av++r)) f=f (Ap b.away.l) b.away.l.length:=fun r f=>by simp[LineD.av,A2,Ft]
  have C:take (A.length*1) (Ap A)++[.int .i64 (j:Int)]=Ap (A++[(j:Int)]):=Aag (B:=[(j:Int)]) rfl
  rw[z,Z2 rfl u,v,ct,C,Ez (by omega)]
  cases b.away.l.contains h with
  | true=>simp only[A3f,cond_false,cond_true];exact n
  | false =>
   simp only[A2c,cond_true,cond_false]
   rw[Az2] at k
   simpa using k
theorem mM {N:Nat} {c:CaseD} {h:Int} {o:Bool} {K:Nat→LA→O R} (hs:Small c N):Ir N c.av o h K=K (A1 c h).length (Ap (A1 c h)):=by
 rw[EV];unfold S4
 have:=SU (R:=R) (N:=N) (c:=c) (h:=h) (o:=o) (K:=K) hs c.lines.l.length 0 N [] (by omega) hs.lin.1 (by simp)
 simpa[A1,Ap] using this
def Bm (e:Nat×Nat):LA:=[.int .i64 (e.1:Int),.int .i64 (e.2:Int)]
theorem S7 (e:Nat×Nat):(Bm e).length=2:=rfl
theorem WN (es:List (Nat×Nat)):(es.flatMap Bm).length=es.length*2:=by
 induction es with
 | nil=>rfl
 | cons e r j=>rw[A0z,Az2,j,S7];simp;omega
theorem rg {N:Nat} {c:CaseD} {o:Bool} {ls:List Int} {K:Nat→Nat→LA→LA→O R} (n:ls.length≤1000000) (k:∀ l ∈ ls,∃ x,LnV c l x):∀ (m j fuel:Nat),j+m=ls.length→m<fuel →
  Ko N K ls.length o c.av (Ap ls) fuel j (ls.length:Int) (j:Int) (((ls.take j).map (Hj c)).flatMap Bm)=K ls.length ls.length ((ls.map (Hj c)).flatMap Bm) (Ap ls)
 | 0,j,fuel+1,q,_=>by
  rw[Ko];unfold Wu
  have:j=ls.length:=by omega
  rw[H2 (by omega),cf,Az0 (by omega),this]
 | m+1,j,fuel+1,q,u=>by
  rw[Ko];unfold Wu
  have h:j<ls.length:=by omega
  obtain⟨x,e⟩:=k ls[j] (A0l h)
  have s:(ble (j+1) 140737488355328&&ble ((j+1)*16) 140737488355328)=true:=by rw[Ep,Ep];simp;omega
  have t:take (j*2) (((ls.take j).map (Hj c)).flatMap Bm)++[.int .i64 x.fr,.int .i64 x.tl]=((ls.take (j+1)).map (Hj c)).flatMap Bm:=by
   rw[Az0 (by rw[WN];simp;omega),A02 h,A15,A1h]
   simp only[A0n,A3n,Ami e,A0z,List.flatMap_nil,A1y,Bm]
   have:=e.f0;have:=e.t0
   rw[A51 e.f0,A51 e.t0]
  rw[Gh h,ct,Aa h,ct,Ar3 (by simpa using h),Az1,MT h]
  simp only[Pl,Axr e,Axs e]
  rw[xu e.l0 e.lt,ct,ct,s,ct,t,Ez (by omega),rg n k m (j+1) fuel (by omega) (by omega)]
theorem Ajh {N:Nat} {c:CaseD} {h:Int} {o:Bool} {K:Nat→Nat→LA→LA→O R} (hs:Small c N) (k:∀ l ∈ A1 c h,∃ x,LnV c l x) :
  IT N c.av o h K=K (A1 c h).length (A1 c h).length (((A1 c h).map (Hj c)).flatMap Bm) (Ap (A1 c h)):=by
 rw[YY];unfold MN
 have n:=JB h c.lines.l 0
 have e:=hs.top.2.1
 have j:=hs.lin.1
 have:=rg (R:=R) (N:=N) (c:=c) (o:=o) (ls:=A1 c h) (K:=K) (by unfold A1;omega) k (A1 c h).length 0 N (by omega) (by unfold A1;omega)
 rw[Hi,ct,De,mM hs]
 simpa using this
def E5 (st:Bool×List Int) (e:Nat×Nat):Bool×List Int :=
 let m:=Js (st.2.getD e.1 0) (st.2.getD e.2 0)
 ((st.1||(st.2.getD e.1 0 != m))||(st.2.getD e.2 0 != m),(st.2.set e.1 m).set e.2 m)
theorem mN {N:Nat} {es:List (Nat×Nat)} {n:Nat} {t o:Bool} {K1:Bool→LA→O R} {K:Nat→LA→O R} (hs:es.length<4611686018427387904) (u:∀ e ∈ es,e.1<n∧e.2<n):∀ (m j fuel:Nat) (st:Bool×List Int),j+m=es.length→m<fuel→st.2.length=n →
  Gw N K1 K (es.flatMap Bm) es.length t o n fuel st.1 (es.length:Int) (j:Int) (Ap st.2)=K1 ((es.drop j).foldl E5 st).1 (Ap ((es.drop j).foldl E5 st).2)
 | 0,j,fuel+1,st,v,_,_=>by
  rw[Gw];unfold Qa
  rw[H2 (by omega),cf,Pk (l:=es) (by omega)];rfl
 | m+1,j,fuel+1,st,v,S,k=>by
  rw[Gw];unfold Qa
  have h:j<es.length:=by omega
  obtain⟨q,s⟩:=u es[j] (A0l h)
  have z:=mN (N:=N) (es:=es) (n:=n) (t:=t) (o:=o) (K1:=K1) (K:=K) hs u m (j+1) fuel (E5 st es[j]) (by omega) (by omega) (by simp[E5,k])
  rw[Gh h,ct,Aa h,ct,Az1,Be S7 _ _ h,Ju (l:=es) h,A22,←z]
  generalize es[j]=e at *
  have b1:ble 2 (List.length (Bm e++List.flatMap Bm (drop (j+1) es)))=true:=by rw[Ep,Az2,S7];simp
  have A:take 2 (Bm e++List.flatMap Bm (drop (j+1) es))=Bm e:=A2k (S7 e)
  rw[b1,ct,A,S7]
  have iu:Ae (e.1:Int) n=true:=Aa q
  have iv:Ae (e.2:Int) n=true:=Aa s
  have ru:∀ f:Int→O R,As .i64 (drop (0+((Int.toNat (e.1:Int))*1)) (Ap st.2)) f=f (st.2.getD e.1 0):=fun f=>by rw[Ar3 (by rw[k];simpa using q)];rfl
  have rv:∀ f:Int→O R,As .i64 (drop (0+((Int.toNat (e.2:Int))*1)) (Ap st.2)) f=f (st.2.getD e.2 0):=fun f=>by rw[Ar3 (by rw[k];simpa using s)];rfl
  have s1:=Aaf (l:=st.2) (x:=(Int.toNat (e.1:Int))) (by rw[k];simpa using q)
  have s2:∀ m:Int,((beq 1 1)&&((ble ((0+((Int.toNat (e.2:Int))*1))+1) (List.length (List.set (Ap st.2) (0+((Int.toNat (e.1:Int))*1)) (.int .i64 m))))&&(!false)))=true:=fun m=>by
   rw[fC];exact Aaf (by simpa[k] using s)
  have B:∀ m:Int,List.set (List.set (Ap st.2) (0+((Int.toNat (e.1:Int))*1)) (.int .i64 m)) (0+((Int.toNat (e.2:Int))*1)) (.int .i64 m)=Ap ((st.2.set e.1 m).set e.2 m):=fun m=>by
   rw[fC,fC];simp
  have C:(!o||A6 (Bm e))=true:=by simp[Bm,A6]
  have D:(beq 2 2&&(ble 2 2&&!false))=true:=rfl
  have F:setCells [(.int .i64 (0:Int)),(.int .i64 (0:Int))] 0 (Bm e)=Bm e:=rfl
  have G:∀ f:Int→O R,As .i64 (Bm e) f=f e.1:=fun f=>by simp[Bm,Br]
  have I:∀ f:Int→O R,As .i64 (drop 1 (Bm e)) f=f e.2:=fun f=>by simp[Bm,Br]
  simp only[C,D,F,G,I,ct,iu,iv,ru,rv,s1,s2,B,Ez (show j<4611686018427387904 by omega)]
  unfold E5
  cases st.1
  ·cases L:(st.2.getD e.1 0 != Js (st.2.getD e.1 0) (st.2.getD e.2 0))<;>simp only[L,A3h,A3d,cond_true,cond_false,beq_self_eq_true,show(true==false)=false from rfl]
  ·simp only[A3d,cond_false,show(true==false)=false from rfl]
def b_ (L:List Int):Nat:=(L.map Int.toNat).sum
theorem Amj {L:List Int} {x:Nat} {v:Int} (h:x<L.length):b_ (L.set x v)+(L.getD x 0).toNat=b_ L+v.toNat:=by
 unfold b_
 rw[MT h]
 induction L generalizing x with
 | nil=>simp at h
 | cons a r e =>
  cases x with
  | zero=>simp;omega
  | succ x=>have:=e (x:=x) (by simpa using h);simp at this ⊢;omega
theorem ri {L:List Int} {x y:Nat} {v:Int} (h:x<L.length):(L.set x v).getD y 0=if x=y then v else L.getD y 0:=by
 rw[A0e,A0e,List.getElem?_set]
 by_cases e:x=y
 ·subst e;simp[h]
 ·simp[e]
theorem Auk (a b:Int):Js a b≤a∧Js a b≤b∧(Js a b=a∨Js a b=b):=by
 unfold Js
 by_cases h:b<a
 ·simp[h];omega
 ·simp[h];omega
theorem Aoh {n:Nat} {es:List (Nat×Nat)} {e:Nat×Nat} (D:e ∈ es) (z:e.1<n) (A:e.2<n) {b:Bool} {L:List Int} (h:LeastOk n es L) :
    LeastOk n es (E5 (b,L) e).2∧(((E5 (b,L) e).1=true∧b_ (E5 (b,L) e).2<b_ L)∨((E5 (b,L) e)=(b,L)∧L.getD e.1 0=L.getD e.2 0)):=by
  obtain⟨u,v⟩:=e
  simp only at z A
  obtain⟨m1,m2,m3⟩:=Auk (L.getD u 0) (L.getD v 0)
  have j:u<L.length:=by rw[h.len];exact z
  have s:v<L.length:=by rw[h.len];exact A
  have k:Conn es u v:=.fwd D (.refl _)
  have An:∀ y,((L.set u (Js (L.getD u 0) (L.getD v 0))).set v (Js (L.getD u 0) (L.getD v 0))).getD y 0=if v=y then Js (L.getD u 0) (L.getD v 0) else if u=y then Js (L.getD u 0) (L.getD v 0) else L.getD y 0:=fun y=>by
    rw[ri (by simpa using s),ri j]
  have lu:=h.low u z
  have lv:=h.low v A
  refine⟨⟨by simp[E5,h.len],fun y C=>?_,fun y C=>?_⟩,?_⟩
  · simp only[E5,An]
    split
    · rename_i e;subst e;omega
    · split
      · rename_i e;subst e;omega
      · exact h.low y C
  · simp only[E5,An]
    have cm:Conn es (Js (L.getD u 0) (L.getD v 0)).toNat u:=by
      rcases m3 with e | e<;>rw[e]
      · exact h.con u z
      · exact(h.con v A).trans k.symm
    split
    · rename_i e;subst e;exact cm.trans k
    · split
      · rename_i e;subst e;exact cm
      · exact h.con y C
  · by_cases e1:L.getD u 0=Js (L.getD u 0) (L.getD v 0)<;>by_cases B:L.getD v 0=Js (L.getD u 0) (L.getD v 0)
    · right
      have q:(L.set u (Js (L.getD u 0) (L.getD v 0))).set v (Js (L.getD u 0) (L.getD v 0))=L:=by
        have key:∀ m:Int,L.getD u 0=m→L.getD v 0=m→(L.set u m).set v m=L:=by
          intro m F G
          have a1:L.set u m=L:=by rw[←F,MT j,A5t]
          have a2:L.set v m=L:=by rw[←G,MT s,A5t]
          rw[a1,a2]
        exact key _ e1 B
      have x1:(L.getD u 0 != Js (L.getD u 0) (L.getD v 0))=false:=by simpa using e1
      have x2:(L.getD v 0 != Js (L.getD u 0) (L.getD v 0))=false:=by simpa using B
      refine⟨by simp only[E5,q,x1,x2,Bool.or_false],by rw[e1];exact B.symm⟩
    all_goals
      left
      have I:=Amj (v:=Js (L.getD u 0) (L.getD v 0)) j
      have t:=Amj (L:=L.set u (Js (L.getD u 0) (L.getD v 0))) (x:=v) (v:=Js (L.getD u 0) (L.getD v 0)) (by simpa using s)
      rw[ri j] at t
      refine⟨?_,?_⟩
      · first
          | (have x2 : (L.getD v 0 != Js (L.getD u 0) (L.getD v 0)) = true := by simpa using B
             simp only[E5,x2,A24])
          | (have x1 : (L.getD u 0 != Js (L.getD u 0) (L.getD v 0)) = true := by simpa using e1
             simp only[E5,x1,A24,A3d])
      · simp only[E5]
        split at t
        · rename_i e;subst e;omega
        · omega
theorem Aah {n:Nat} {es:List (Nat×Nat)} (k:∀ e ∈ es,e.1<n∧e.2<n):∀ (fs:List (Nat×Nat)) (b:Bool) (L:List Int),(∀ e ∈ fs,e ∈ es)→LeastOk n es L →
  LeastOk n es (fs.foldl E5 (b,L)).2∧(((fs.foldl E5 (b,L)).1=true∧(b_ (fs.foldl E5 (b,L)).2<b_ L∨(b=true∧b_ (fs.foldl E5 (b,L)).2≤b_ L)))∨((fs.foldl E5 (b,L))=(b,L)∧Amh fs L))
 | [],b,L,_,h=>⟨h,.inr ⟨rfl,fun e k=>by simp at k⟩⟩
 | e::r,b,L,u,h=>by
  have v:=u e (by simp)
  obtain⟨C,D⟩:=Aoh v (k e v).1 (k e v).2 (b:=b) h
  rw[A22]
  rcases D with⟨z,A⟩ | ⟨z,A⟩
  ·have F:E5 (b,L) e=(true,(E5 (b,L) e).2):=by rw[←z]
   rw[F]
   obtain⟨B,q⟩:=Aah k r true (E5 (b,L) e).2 (fun x j=>u x (A0r _ j)) C
   refine⟨B,.inl ?_⟩
   rcases q with⟨s,t⟩ | ⟨s,_⟩
   ·exact⟨s,.inl (by rcases t with t | ⟨_,t⟩<;>omega)⟩
   ·rw[s];exact⟨rfl,.inl A⟩
  ·rw[z]
   obtain⟨B,q⟩:=Aah k r b L (fun x j=>u x (A0r _ j)) h
   refine⟨B,?_⟩
   rcases q with q | ⟨s,t⟩
   ·exact .inl q
   ·refine .inr ⟨s,fun x j=>?_⟩
    rcases Az7.1 j with rfl | j
    ·exact A
    ·exact t x j
theorem mO {N:Nat} {es:List (Nat×Nat)} {n:Nat} {t o:Bool} (hs:Q4 es.length N) (k:∀ e ∈ es,e.1<n∧e.2<n):∀ (s fuel:Nat) (L:List Int),LeastOk n es L→b_ L≤s→s+2<fuel →
  ∃ L',LeastOk n es L'∧Amh es L'∧∀ K:Nat→LA→O R,Cy N K (es.flatMap Bm) es.length t o n fuel true (Ap L)=K n (Ap L')
 | s,fuel+1,L,h,hL,B=>by
  obtain⟨u,v⟩:=Aah k es false L (fun _ z=>z) h
  have step:∀ K:Nat→LA→O R,Cy N K (es.flatMap Bm) es.length t o n (fuel+1) true (Ap L)=Cy N K (es.flatMap Bm) es.length t o n fuel (es.foldl E5 (false,L)).1 (Ap (es.foldl E5 (false,L)).2):=fun K=>by
   rw[Cy];unfold Qb
   have:=mN (R:=R) (N:=N) (es:=es) (n:=n) (t:=t) (o:=o) (K1:=Cy N K (es.flatMap Bm) es.length t o n fuel) (K:=K) hs.2 k es.length 0 N (false,L) (by omega) hs.1 h.len
   simpa using this
  rcases v with⟨q,j⟩ | ⟨q,j⟩
  ·have A:b_ (es.foldl E5 (false,L)).2<b_ L:=by
    rcases j with j | ⟨j,_⟩
    ·exact j
    ·cases j
   obtain⟨L',a1,a2,a3⟩:=mO hs k (s - 1) fuel _ u (by omega) (by omega)
   exact⟨L',a1,a2,fun K=>by rw[step,q];exact a3 K⟩
  ·refine⟨L,h,j,fun K=>?_⟩
   rw[step,q]
   rcases fuel with _ | fuel
   ·omega
   ·rw[Cy];unfold Qb;rfl
 termination_by s=>s
 decreasing_by omega
theorem mP {N:Nat} {es:List (Nat×Nat)} {n:Nat} {t o:Bool} {K:Nat→LA→O R} (hn:n<4611686018427387904) (L:List Int) (hL:L.length=n):∀ (m j fuel:Nat),j+m=n→m<fuel →
  Gy N K (n:Int) (es.flatMap Bm) es.length t o fuel n (j:Int) (Ap ((Pm n).take j++L.drop j))=Cy N K (es.flatMap Bm) es.length t o n N true (Ap (Pm n))
 | 0,j,fuel+1,k,_=>by
  rw[Gy];unfold Qc
  rw[H2 (by omega),cf,Pk (by omega),A1y,Az0 (by simp[Pm];omega)]
 | m+1,j,fuel+1,k,q=>by
  rw[Gy];unfold Qc
  have h:j<n:=by omega
  have e:((Pm n).take j++L.drop j).length=n:=by simp[Pm];omega
  rw[Gh h,ct,Aa h,ct,Aaf (by rw[e];simpa using h),ct,Az1,A0g,A0b,fC,Ajg hL h,Ez (by omega),mP hn L hL m (j+1) fuel (by omega) (by omega)]
theorem Aji (n:Nat) (es:List (Nat×Nat)):LeastOk n es (Pm n):=by
 refine⟨by simp[Pm],fun b e=>?_,fun b e=>?_⟩
 ·rw[xt e];omega
 ·rw[xt e];exact .refl _
theorem Awn {L:List Int} {b:Nat}:(∀ x ∈ L,x.toNat≤b)→b_ L≤L.length*b:=by
 unfold b_
 induction L with
 | nil=>intro _;simp
 | cons a r e =>
  intro h
  have k:=h a (by simp)
  have n:=e (fun x j=>h x (A0r _ j))
  simp[A0m];omega
theorem fD {N:Nat} {es:List (Nat×Nat)} {n:Nat} {t o:Bool} (hs:Q4 es.length N) (hn:n≤1000) (hN:n*n+1000<N) (q:∀ e ∈ es,e.1<n∧e.2<n) :
  ∃ L,LeastOk n es L∧Amh es L∧∀ (m:Nat) (K:Nat→LA→O R),m=es.length→Rl N (n:Int) (es.flatMap Bm) m t o K=K n (Ap L):=by
 have j:b_ (Pm n)≤n*n:=by
  have:=Awn (L:=Pm n) (b:=n) (by
   intro x k;simp[Pm] at k;obtain⟨a,A,rfl⟩:=k;simp;omega)
  simpa[Pm] using this
 obtain⟨L,s,u,v⟩:=mO (R:=R) (N:=N) (es:=es) (n:=n) (t:=t) (o:=o) hs q (n*n) N (Pm n) (Aji n es) j (by omega)
 refine⟨L,s,u,fun m K z=>?_⟩
 subst z
 rw[PR];unfold Z1
 have ok:(decide ((0:Int)≤(n:Int))&&(decide ((n:Int)≤(n:Int))&&(decide ((n:Int)≤(140737488355328:Int))&&decide (((n:Int)*((8:Nat):Int))≤(140737488355328:Int)))))=true:=by simp;omega
 have e:replicate n (AV.int .i64 (0:Int))=Ap (replicate n 0):=by simp[Ap]
 have:=mP (R:=R) (N:=N) (es:=es) (n:=n) (t:=t) (o:=o) (K:=K) (by omega) (replicate n 0) (by simp) n 0 N (by omega) (by omega)
 rw[ok,ct,Az1,e,←v K]
 simpa using this
theorem cA {N:Nat} {L:List Int} {t o:Bool} {K:Int→O R} (hs:L.length<1000000):∀ (m j fuel:Nat) (a:Nat),j+m=L.length→m<fuel→a≤j →
  Kp N K (Ap L) L.length t o fuel (a:Int) (j:Int)=K ((a+((List.range' j m).filter fun b=>L.getD b 0==(b:Int)).length:Nat):Int)
 | 0,j,fuel+1,a,e,_,_=>by
  rw[Kp];unfold Wv
  rw[H2 (by omega),cf];simp
 | m+1,j,fuel+1,a,e,k,n=>by
  rw[Kp];unfold Wv
  have h:j<L.length:=by omega
  rw[Gh h,ct,Aa h,ct,rY h,Ez (by omega),Ez (by omega),List.range'_succ,A3l,MT h]
  cases q:L[j]==(j:Int) with
  | true =>
   rw[ct,cA hs m (j+1) fuel (a+1) (by omega) (by omega) (by omega)]
   simp;congr 1;omega
  | false =>
   rw[cf,cA hs m (j+1) fuel a (by omega) (by omega) (by omega)]
   simp
theorem rj {N:Nat} {L:List Int} {n:Nat} {t o:Bool} {K:Int→O R} (hn:n=L.length) (hs:L.length<1000000) (hN:L.length<N):BB N (Ap L) n t o K=K (Auj L:Int):=by
 subst hn
 rw[YZ];unfold MO
 have:=cA (R:=R) (N:=N) (L:=L) (t:=t) (o:=o) (K:=K) hs L.length 0 N 0 (by omega) hN (by omega)
 simp only[A2u,A0g] at this
 rw[Auj,List.range_eq_range']
 exact this
def fE (gone:List Int):List (Nat×Nat)→Nat→List (Nat×Nat)
 | [],_=>[]
 | e::r,j=>cond (gone.contains (j:Int)) (fE gone r (j+1)) (e::fE gone r (j+1))
theorem rn {N:Nat} {es:List (Nat×Nat)} {gone:List Int} {n:Nat} {t o t2 o2:Bool} {K:Bool→O R} (D:es.length≤1000) (hlN:es.length<N) (hn:n≤1000) (hN:n*n+1000<N) (k:∀ e ∈ es,e.1<n∧e.2<n) (u:Q4 gone.length N):∀ (m j fuel:Nat) (A:List (Nat×Nat)),j+m=es.length→m<fuel→A.length≤j→(∀ e ∈ A,e.1<n∧e.2<n) →
  E4 N K (n:Int) (es.flatMap Bm) es.length t o (Ap gone) gone.length t2 o2 fuel A.length (j:Int) (A.flatMap Bm)=K (decide ((X2 n (A++fE gone (es.drop j) j):Int)>(X2 n es:Int)))
 | 0,j,fuel+1,A,F,_,hA,hAe=>by
  rw[E4];unfold Mm
  obtain⟨L,a1,a2,a3⟩:=fD (R:=R) (N:=N) (es:=A) (n:=n) (t:=false) (o:=true) ⟨by omega,by omega⟩ hn hN hAe
  obtain⟨L',b1,v,z⟩:=fD (R:=R) (N:=N) (es:=es) (n:=n) (t:=false) (o:=o) ⟨by omega,by omega⟩ hn hN k
  have l1:=a1.len;have l2:=b1.len
  rw[H2 (by omega),cf,Pk (l:=es) (by omega),fE,A1y,Az0 (by rw[WN];exact Az3 _),a3 _ _ rfl,A0b,Az0 (by rw[Dw];omega),rj (by omega) (by omega) (by omega),z _ _ rfl,Az0 (by rw[Dw];omega),rj (by omega) (by omega) (by omega),mL a1 a2 hAe,mL b1 v k]
 | m+1,j,fuel+1,A,F,T,hA,hAe=>by
  rw[E4];unfold Mm
  have h:j<es.length:=by omega
  have q:=rn (N:=N) (es:=es) (gone:=gone) (n:=n) (t:=t) (o:=o) (t2:=t2) (o2:=o2) (K:=K) D hlN hn hN k u m (j+1) fuel (A++[es[j]]) (by omega) (by omega) (by simp;omega) (by
   intro e B
   rcases A0f.1 B with s | s
   ·exact hAe e s
   ·simp at s;subst s;exact k _ (A0l h))
  have C:=rn (N:=N) (es:=es) (gone:=gone) (n:=n) (t:=t) (o:=o) (t2:=t2) (o2:=o2) (K:=K) D hlN hn hN k u m (j+1) fuel A (by omega) (by omega) (by omega) hAe
  rw[Gh h,ct,Z2 rfl u,Aa h,ct,Az1,Be S7 _ _ h,Ju (l:=es) h,fE]
  generalize es[j]=e at *
  have b1:ble 2 (List.length (Bm e++List.flatMap Bm (drop (j+1) es)))=true:=by rw[Ep,Az2,S7];simp
  have v:take 2 (Bm e++List.flatMap Bm (drop (j+1) es))=Bm e:=A2k (S7 e)
  have z:(ble (A.length+1) 140737488355328&&ble ((A.length+1)*16) 140737488355328)=true:=by rw[Ep,Ep];simp;omega
  have G:(!o||A6 (Bm e))=true:=by simp[Bm,A6]
  have I:take 2 (setCells [(.int .i64 (0:Int)),(.int .i64 (0:Int))] 0 (Bm e))=Bm e:=rfl
  have S:take (A.length*2) (A.flatMap Bm)++Bm e=(A++[e]).flatMap Bm:=by
   rw[Az0 (by rw[WN];exact Az3 _)];simp
  rw[b1,ct,v,G,ct,S7,show(beq 2 2&&ble 2 2)=true from rfl,ct,z,ct,I,S,Ez (by omega)]
  cases gone.contains (j:Int) with
  | true=>simp only[A3f,cond_false,cond_true];exact C
  | false =>
   simp only[A2c,cond_true,cond_false]
   rw[Az2] at q
   simpa using q
theorem ro {N:Nat} {es:List (Nat×Nat)} {gone:List Int} {n m m2:Nat} {t o t2 o2:Bool} {K:Bool→O R} (k:m=es.length) (j:m2=gone.length) (q:es.length≤1000) (hlN:es.length<N) (hn:n≤1000) (hN:n*n+1000<N) (s:∀ e ∈ es,e.1<n∧e.2<n) (u:Q4 gone.length N) :
  Pj N (n:Int) (es.flatMap Bm) m t o (Ap gone) m2 t2 o2 K=K (decide ((X2 n (fE gone es 0):Int)>(X2 n es:Int))):=by
 subst k j
 rw[EW];unfold S5
 have:=rn (R:=R) (N:=N) (es:=es) (gone:=gone) (n:=n) (t:=t) (o:=o) (t2:=t2) (o2:=o2) (K:=K) q hlN hn hN s u es.length 0 N [] (by omega) hlN (by simp) (by simp)
 simpa using this
theorem C5 {p:Hz} {ok:Bool} {w:Int×Int×Int} {e:{ e:Int // e≠0 }} (h:nd p ok w e=none):p=none∧ok=true:=by
 rcases p with _ | x
 ·cases ok
  ·simp[nd] at h
  ·exact⟨rfl,rfl⟩
 ·simp[nd] at h
theorem Q5 {α:Type} {f:Nat→α→Hz→Hz} (k:∀ j a x,f j a (some x)=some x):∀ (l:List α) (j:Nat) (p:Hz),Dr f l j p=none→p=none∧∀ i (h:i<l.length),f (j+i) l[i] none=none
 | [],j,p,h=>by rw[Dr] at h;exact⟨h,fun i hi=>by simp at hi⟩
 | a::r,j,p,h=>by
  rw[Dr] at h
  obtain⟨e,n⟩:=Q5 k r (j+1) _ h
  have q:p=none:=by
   rcases p with _ | x
   ·rfl
   ·rw[k] at e;cases e
  subst q
  refine⟨rfl,fun i hi=>?_⟩
  cases i with
  | zero=>simpa using e
  | succ i=>have:=n i (by simpa using hi);rw[show j+1+i=j+(i+1) by omega] at this;simpa using this
theorem j7 {c:CaseD} (j:Nat) (x:BusD) (y:(Int×Int×Int)×{ e:Int // e≠0 }):Aod c j x (some y)=some y:=rfl
theorem cB {c:CaseD} (j:Nat) (x:LineD) (y:(Int×Int×Int)×{ e:Int // e≠0 }):mH c j x (some y)=some y:=rfl
theorem SV {c:CaseD} (j:Nat) (x:StoreD) (y:(Int×Int×Int)×{ e:Int // e≠0 }):b7 c j x (some y)=some y:=rfl
theorem j8 {c:CaseD} (j:Nat) (x:TieD) (y:(Int×Int×Int)×{ e:Int // e≠0 }):Aoe c j x (some y)=some y:=rfl
theorem cC {c:CaseD} (j:Nat) (x:UnitD) (y:(Int×Int×Int)×{ e:Int // e≠0 }):r_ c j x (some y)=some y:=by
 show cond (x.state==2) _ _=_
 cases x.state==2<;>rfl
def vt (c:CaseD):Hz :=
 let p:=r7 c none
 let p:=Dr (Aod c) c.buses.l 0 p
 let p:=Dr (mH c) c.lines.l 0 p
 let p:=Dr (r_ c) c.units.l 0 p
 let p:=Dr (b7 c) c.stores.l 0 p
 let p:=Dr (Aoe c) c.ties.l 0 p
 Dr (Aey c) c.outs.l 0 p
noncomputable def Ar4 (c:CaseD) (h:Int) (o:OutD):Bool :=
 (X2 c.buses.l.length (((A1 c h).filter fun l=>!o.lines.l.contains l).map (Hj c)):Int)==(X2 c.buses.l.length ((A1 c h).map (Hj c)):Int)
noncomputable def Ar5 (c:CaseD) (h:Int) (j:Nat) (o:OutD) (p:Hz):Hz:=nd p (Ar4 c h o) (6,j,h) Azq
noncomputable def Vf (c:CaseD):Nat→Nat→Hz→Hz
 | 0,_,p=>p
 | m+1,j,p=>Vf c m (j+1) (Dr (Ar5 c j) c.outs.l 0 p)
theorem Aoi {c:CaseD} {h:Int} (j:Nat) (x:OutD) (y:(Int×Int×Int)×{ e:Int // e≠0 }):Ar5 c h j x (some y)=some y:=rfl
theorem mQ {c:CaseD} {y:(Int×Int×Int)×{ e:Int // e≠0 }}:∀ (m j:Nat),Vf c m j (some y)=some y
 | 0,_=>rfl
 | m+1,j=>by rw[Vf,Na (fun j a=>Aoi j a y)];exact mQ m (j+1)
noncomputable def Yt (c:CaseD):Hz:=match vt c with
 | some x=>some x
 | none=>Vf c c.hours.toNat 0 none
structure PreV (c:CaseD):Prop where
 hours:1≤c.hours∧c.hours≤24
 nb:c.buses.l.length≤32
 nl:c.lines.l.length≤64
 no:c.outs.l.length≤64
 line:∀ x ∈ c.lines.l,0≤x.fr∧x.fr.toNat<c.buses.l.length∧0≤x.tl∧x.tl.toNat<c.buses.l.length
 out:∀ x ∈ c.outs.l,x.lines.l.length≤2
theorem Aoj {c:CaseD} (h:vt c=none):PreV c:=by
 unfold vt at h
 obtain⟨u,o6⟩:=Q5 (fun _ _ _=>j5) _ _ _ h
 obtain⟨v,o5⟩:=Q5 (fun j a x=>j8 j a x) _ _ _ u
 obtain⟨z,o4⟩:=Q5 (fun j a x=>SV j a x) _ _ _ v
 obtain⟨A,o3⟩:=Q5 (fun j a x=>cC j a x) _ _ _ z
 obtain⟨B,o2⟩:=Q5 (fun j a x=>cB j a x) _ _ _ A
 obtain⟨t,o1⟩:=Q5 (fun j a x=>j7 j a x) _ _ _ B
 unfold r7 at t
 obtain⟨C,D⟩:=C5 t
 obtain⟨F,_⟩:=C5 C
 obtain⟨G,_⟩:=C5 F
 obtain⟨I,_⟩:=C5 G
 obtain⟨w3,n⟩:=C5 I
 obtain⟨L,e⟩:=C5 w3
 obtain⟨S,_⟩:=C5 L
 obtain⟨T,_⟩:=C5 S
 obtain⟨_,q⟩:=C5 T
 unfold Fe at q e
 simp at q e n D
 refine⟨q,by omega,by omega,by omega,fun x s=>?_,fun x s=>?_⟩
 ·obtain⟨i,hi,rfl⟩:=A1p s
  have:=o2 i hi
  unfold mH fA at this
  obtain⟨a,_⟩:=C5 this
  obtain⟨a,_⟩:=C5 a
  obtain⟨a,_⟩:=C5 a
  obtain⟨a,_⟩:=C5 a
  obtain⟨a,_⟩:=C5 a
  obtain⟨a,_⟩:=C5 a
  obtain⟨a,_⟩:=C5 a
  obtain⟨a,_⟩:=C5 a
  obtain⟨a,b1⟩:=C5 a
  obtain⟨_,k⟩:=C5 a
  unfold Y_ at b1 k
  simp at b1 k
  omega
 ·obtain⟨i,hi,rfl⟩:=A1p s
  have:=o6 i hi
  unfold Aey Aae at this
  obtain⟨a,_⟩:=C5 this
  obtain⟨a,_⟩:=C5 a
  obtain⟨a,_⟩:=C5 a
  obtain⟨a,_⟩:=C5 a
  obtain⟨a,_⟩:=C5 a
  obtain⟨a,_⟩:=C5 a
  obtain⟨a,_⟩:=C5 a
  obtain⟨_,k⟩:=C5 a
  simp at k
  omega
theorem PreV.lnV {c:CaseD} (v:PreV c) {h:Int} {l:Int} (k:l ∈ A1 c h):∃ x,LnV c l x:=by
 have:=Ae0 h c.lines.l 0 l k
 have n:0≤l:=by omega
 have j:l.toNat<c.lines.l.length:=by omega
 obtain⟨a,b,d,e⟩:=v.line _ (A0l j)
 exact⟨c.lines.l[l.toNat],n,j,Az6 j,a,b,d,e⟩
def w3 (p:Hz):LA:=match p with
 | none=>[.int .i64 0,.int .i64 0,.int .i64 0]
 | some ((a,b,f),_)=>[.int .i64 a,.int .i64 b,.int .i64 f]
end
end Gx.Cf
namespace Gx
open Go Go.Proofs
set_option maxRecDepth 100000
noncomputable section
variable {R:Type} (N:Nat)
def S8 (k0:Int→LA→O R) (r0:LA→Int→O R) (b:Bool) (a:LA) (j:Int) (aj:LA):O R :=
 (cond (ble 8 (a.length)) (Cn N (a.take 8) b 1 j aj fun ak=>cond (ble 8 (a.length)) (Aw 3 (a.drop 2) fun al am=>cond (Ae j am) (Aw 1 ((al.drop ((j.toNat)*3)).drop 1) fun an ao=>Cx N (a.take 8) b an ao false b 0 1048576 1 j 1 ak fun ap=>Aw 3 (a.drop 2) fun aq ar=>cond (Ae j ar) (As .i64 ((aq.drop ((j.toNat)*3)).drop 2) fun au=>Ar N 0 1048576 [(.int .i64 au)] 1 false true fun av=>Ab N av 1 j 2 3 ap fun aw=>k0 (wrap .i64 (j+1)) aw) none) none) none) none)
def Ta (k7:Int→LA→O R) (k9:Int→Int→LA→O R) (r0:LA→Int→O R) (c d:Nat) (b:Bool) (a f g:LA) (k10:Int→Int→Nat→Int→LA→LA→O R) (o l:Int) (i:Nat) (m:Int) (v w:LA):O R :=
 (cond (decide (m<(d:Int))) (Aw 4 (a.drop 7) fun ax ay=>cond (Ae l ay) (Aw 1 ((ax.drop ((l.toNat)*4)).drop 1) fun az ba=>cond (Ae m d) (As .i64 (g.drop (0+((m.toNat)*1))) fun bb=>EU N az ba false b bb fun bc=>cond bc (cond ((ble (i+1) 140737488355328)&&(ble ((i+1)*8) 140737488355328)) (k10 o l (i+1) (wrap .i64 (m+1)) v ((w.take (i*1))++[(.int .i64 m)])) none) (k10 o l i (wrap .i64 (m+1)) v w)) none) none) (Aw 3 (a.drop 2) fun ce bd=>Pj N (bd:Int) (f.take (c*2)) c false true (w.take (i*1)) i false true fun be=>Ab N (!be) 6 l o 13 v fun bf=>k9 o (wrap .i64 (l+1)) bf))
def Is (k7:Int→LA→O R) (k9:Int→Int→LA→O R) (r0:LA→Int→O R) (c d:Nat) (b:Bool) (a f g:LA):Nat→Int→Int→Nat→Int→LA→LA→O R
 | 0,_,_,_,_,_,_=>none
 | n+1,o,l,i,m,v,w=>Ta N k7 k9 r0 c d b a f g (Is k7 k9 r0 c d b a f g n) o l i m v w
def Ww (N:Nat) (k7:Int→LA→O R) (r0:LA→Int→O R) (c d:Nat) (b:Bool) (a f g:LA) (k9:Int→Int→LA→O R) (q10:Int→Int→Nat→Int→LA→LA→O R) (ac ad:Int) (ae:LA):O R :=
 (Aw 4 (a.drop 7) fun cf bg=>cond (decide (ad<(bg:Int))) (q10 ac ad 0 0 ae []) (k7 (wrap .i64 (ac+1)) ae))
def H4 (k7:Int→LA→O R) (r0:LA→Int→O R) (c d:Nat) (b:Bool) (a f g:LA):Nat→Int→Int→LA→O R
 | 0,_,_,_=>none
 | n+1,ac,ad,ae=>Ww N k7 r0 c d b a f g (H4 k7 r0 c d b a f g n) (Is N k7 (H4 k7 r0 c d b a f g n) r0 c d b a f g N) ac ad ae
def G_ (k7:Int→LA→O R) (r0:LA→Int→O R) (b:Bool) (a:LA) (q9:Nat→Nat→LA→LA→Int→Int→LA→O R) (af:Int) (ai:LA):O R :=
 (cond (ble 8 (a.length)) (IT N (a.take 8) b af fun c d f g=>q9 c d f g af 0 ai) none)
def Z3 (k7:Int→LA→O R) (r0:LA→Int→O R) (b:Bool) (a:LA) (af:Int) (ai:LA):O R:=(G_ N k7 r0 b a (fun c d f g=>H4 N k7 r0 c d b a f g N) af ai)
def Pn (N:Nat) (r0:LA→Int→O R) (b:Bool) (a:LA) (k7:Int→LA→O R) (q8:Int→LA→O R) (ag:Int) (h:LA):O R :=
 (As .i64 a fun bh=>cond ((decide (ag<bh))==true) (As .i64 (h.drop 3) fun bi=>cond (cond true (bi==0) false) (q8 ag h) (cond (ble 3 (h.length)) (As .i64 (h.drop 3) fun bj=>cond ((beq ((h.take 3).length) 3)&&((ble 3 3)&&(!false))) (cond (ble 3 ((setCells [(.int .i64 0),(.int .i64 0),(.int .i64 0)] 0 (h.take 3)).length)) (r0 ((setCells [(.int .i64 0),(.int .i64 0),(.int .i64 0)] 0 (h.take 3)).take 3) bj) none) none) none)) (cond (ble 3 (h.length)) (As .i64 (h.drop 3) fun bk=>cond ((beq ((h.take 3).length) 3)&&((ble 3 3)&&(!false))) (cond (ble 3 ((setCells [(.int .i64 0),(.int .i64 0),(.int .i64 0)] 0 (h.take 3)).length)) (r0 ((setCells [(.int .i64 0),(.int .i64 0),(.int .i64 0)] 0 (h.take 3)).take 3) bk) none) none) none))
def Dq (r0:LA→Int→O R) (b:Bool) (a:LA):Nat→Int→LA→O R
 | 0,_,_=>none
 | n+1,ag,h=>Pn N r0 b a (Dq r0 b a n) (Z3 N (Dq r0 b a n) r0 b a) ag h
def Wx (r0:LA→Int→O R) (b:Bool) (a:LA) (k6:Int→LA→O R) (q7:Int→LA→O R) (x:Int) (p:LA):O R :=
 (Aw 4 (a.drop 7) fun cg bl=>cond ((decide (x<(bl:Int)))==true) (As .i64 (p.drop 3) fun bm=>cond (cond true (bm==0) false) (cond (ble 8 (a.length)) (Gv N (a.take 8) b x p fun bn=>k6 (wrap .i64 (x+1)) bn) none) (q7 0 p)) (q7 0 p))
def Kq (r0:LA→Int→O R) (b:Bool) (a:LA):Nat→Int→LA→O R
 | 0,_,_=>none
 | n+1,x,p=>Wx N r0 b a (Kq r0 b a n) (Dq N r0 b a N) x p
def Wy (r0:LA→Int→O R) (b:Bool) (a:LA) (k5:Int→LA→O R) (q6:Int→LA→O R) (y:Int) (q:LA):O R :=
 (Aw 5 (a.drop 6) fun ch bo=>cond ((decide (y<(bo:Int)))==true) (As .i64 (q.drop 3) fun bp=>cond (cond true (bp==0) false) (cond (ble 8 (a.length)) (P9 N (a.take 8) b y q fun bq=>k5 (wrap .i64 (y+1)) bq) none) (q6 0 q)) (q6 0 q))
def Kr (r0:LA→Int→O R) (b:Bool) (a:LA):Nat→Int→LA→O R
 | 0,_,_=>none
 | n+1,y,q=>Wy N r0 b a (Kr r0 b a n) (Kq N r0 b a N) y q
def Wz (r0:LA→Int→O R) (b:Bool) (a:LA) (k4:Int→LA→O R) (q5:Int→LA→O R) (z:Int) (r:LA):O R :=
 (Aw 9 (a.drop 5) fun ci br=>cond ((decide (z<(br:Int)))==true) (As .i64 (r.drop 3) fun bs=>cond (cond true (bs==0) false) (cond (ble 8 (a.length)) (Mk N (a.take 8) b z r fun bt=>k4 (wrap .i64 (z+1)) bt) none) (q5 0 r)) (q5 0 r))
def Ks (r0:LA→Int→O R) (b:Bool) (a:LA):Nat→Int→LA→O R
 | 0,_,_=>none
 | n+1,z,r=>Wz N r0 b a (Ks r0 b a n) (Kr N r0 b a N) z r
def W0 (r0:LA→Int→O R) (b:Bool) (a:LA) (k3:Int→LA→O R) (q4:Int→LA→O R) (aa:Int) (s:LA):O R :=
 (Aw 22 (a.drop 4) fun cj bu=>cond ((decide (aa<(bu:Int)))==true) (As .i64 (s.drop 3) fun bv=>cond (cond true (bv==0) false) (cond (ble 8 (a.length)) (Ji N (a.take 8) b aa s fun bw=>k3 (wrap .i64 (aa+1)) bw) none) (q4 0 s)) (q4 0 s))
def Kt (r0:LA→Int→O R) (b:Bool) (a:LA):Nat→Int→LA→O R
 | 0,_,_=>none
 | n+1,aa,s=>W0 N r0 b a (Kt r0 b a n) (Ks N r0 b a N) aa s
def W1 (r0:LA→Int→O R) (b:Bool) (a:LA) (k2:Int→LA→O R) (q3:Int→LA→O R) (ab:Int) (t:LA):O R :=
 (Aw 12 (a.drop 3) fun ck bx=>cond ((decide (ab<(bx:Int)))==true) (As .i64 (t.drop 3) fun bz=>cond (cond true (bz==0) false) (cond (ble 8 (a.length)) (Jg N (a.take 8) b ab t fun ca=>k2 (wrap .i64 (ab+1)) ca) none) (q3 0 t)) (q3 0 t))
def Ku (r0:LA→Int→O R) (b:Bool) (a:LA):Nat→Int→LA→O R
 | 0,_,_=>none
 | n+1,ab,t=>W1 N r0 b a (Ku r0 b a n) (Kt N r0 b a N) ab t
def W2 (N:Nat) (r0:LA→Int→O R) (b:Bool) (a:LA) (k0:Int→LA→O R) (q1:Int→LA→O R) (q2:Int→LA→O R) (ah:Int) (u:LA):O R :=
 (Aw 3 (a.drop 2) fun cl cb=>cond ((decide (ah<(cb:Int)))==true) (As .i64 (u.drop 3) fun cc=>cond (cond true (cc==0) false) (q1 ah u) (q2 0 u)) (q2 0 u))
def H5 (r0:LA→Int→O R) (b:Bool) (a:LA):Nat→Int→LA→O R
 | 0,_,_=>none
 | n+1,ah,u=>W2 N r0 b a (H5 r0 b a n) (S8 N (H5 r0 b a n) r0 b a) (Ku N r0 b a N) ah u
def MU (r0:LA→Int→O R) (q0:Int→LA→O R) (a:LA) (b:Bool):O R :=
 (cond (ble 8 (a.length)) (H0 N (a.take 8) b [(.int .i64 0),(.int .i64 0),(.int .i64 0),(.int .i64 0)] fun cd=>q0 0 cd) none)
def BD:=(Af fun N a b r0=>MU (R:=R) N r0 (H5 N r0 b a N) a b).1
theorem ZB (a b r0):(@BD R N a b r0)=(MU N r0 (H5 N r0 b a N) a b):=by rw[BD,(Af _).2]
def fF:Hints:={ H:=(hK 3 (hS (hK 1 (hS (hP [1,2,4,5] (hJ [1,2,4,5] hL hL)) hL)) (hS (hK 1 (hS (hP [1,2,4,6] hL) hL)) (hS (hK 1 (hS (hP [1,2,4,7] hL) hL)) (hS (hK 1 (hS (hP [1,2,4,8] hL) hL)) (hS (hK 1 (hS (hP [1,2,4,9] hL) hL)) (hS (hK 1 (hS (hP [1,2,4,10] hL) hL)) (hS (hK 1 (hS (hP [1,2,4,11] (hJ [1,2,4,11] hL (hS (hS (hK 2 (hS (hP [1,2,4,11,12,13,14] (hK 1 (hS (hS (hK 1 (hS (hK 1 (hS (hP [1,2,4,11,12,13,14,15,16] hL) hL)) hL)) hL) hL))) hL)) hL) hL))) hL)) hL)))))))),nils:=[(15,1)],modes:=[(3,0),(0,0)] }
def mR:N0:=[XQ N,E2 N,Mz N,Dk N,Bk N,bZ N,b6 N,XY N,eh N,SQ N,Aev N,WK N,oO N]
def Eg (F:KF R):=Hh Tryz.f35 fF (mR N) [] N F
def Aai (b:Bool) (a:LA) (K:St→O R):=fun j aj=>K ⟨[(1,(op 0)),(2,(op 1)),(4,(op 2)),(5,(iv j))],(hq [(bP b 0 a),(bQ 0 [(iv 0),(iv 0),(iv 0)]),(bQ 0 aj)])⟩
def vu (c d:Nat) (b:Bool) (a f g:LA) (K:St→O R):=fun o l i m v w=>K ⟨[(1,(op 0)),(2,(op 1)),(4,(op 2)),(11,(iv o)),(12,(.own 300003 0 c)),(13,(.own 300004 0 d)),(14,(iv l)),(15,(.own 300005 0 i)),(16,(iv m))],(hq [(bP b 0 a),(bQ 0 [(iv 0),(iv 0),(iv 0)]),(bQ 0 v),(bQ 2 f),(bQ 1 g),(bQ 1 w)])⟩
def MV (c d:Nat) (b:Bool) (a f g:LA) (K:St→O R):=fun ac ad ae=>K ⟨[(1,(op 0)),(2,(op 1)),(4,(op 2)),(11,(iv ac)),(12,(.own 300003 0 c)),(13,(.own 300004 0 d)),(14,(iv ad))],(hq [(bP b 0 a),(bQ 0 [(iv 0),(iv 0),(iv 0)]),(bQ 0 ae),(bQ 2 f),(bQ 1 g)])⟩
def Aaj (b:Bool) (a:LA) (K:St→O R):=fun af ai=>K ⟨[(1,(op 0)),(2,(op 1)),(4,(op 2)),(11,(iv af))],(hq [(bP b 0 a),(bQ 0 [(iv 0),(iv 0),(iv 0)]),(bQ 0 ai)])⟩
def Kv (b:Bool) (a:LA) (K:St→O R):=fun ag h=>K ⟨[(1,(op 0)),(2,(op 1)),(4,(op 2)),(11,(iv ag))],(hq [(bP b 0 a),(bQ 0 [(iv 0),(iv 0),(iv 0)]),(bQ 0 h)])⟩
def Aak (b:Bool) (a:LA) (K:St→O R):=fun x p=>K ⟨[(1,(op 0)),(2,(op 1)),(4,(op 2)),(10,(iv x))],(hq [(bP b 0 a),(bQ 0 [(iv 0),(iv 0),(iv 0)]),(bQ 0 p)])⟩
def Aal (b:Bool) (a:LA) (K:St→O R):=fun y q=>K ⟨[(1,(op 0)),(2,(op 1)),(4,(op 2)),(9,(iv y))],(hq [(bP b 0 a),(bQ 0 [(iv 0),(iv 0),(iv 0)]),(bQ 0 q)])⟩
def Aam (b:Bool) (a:LA) (K:St→O R):=fun z r=>K ⟨[(1,(op 0)),(2,(op 1)),(4,(op 2)),(8,(iv z))],(hq [(bP b 0 a),(bQ 0 [(iv 0),(iv 0),(iv 0)]),(bQ 0 r)])⟩
def Aan (b:Bool) (a:LA) (K:St→O R):=fun aa s=>K ⟨[(1,(op 0)),(2,(op 1)),(4,(op 2)),(7,(iv aa))],(hq [(bP b 0 a),(bQ 0 [(iv 0),(iv 0),(iv 0)]),(bQ 0 s)])⟩
def Aao (b:Bool) (a:LA) (K:St→O R):=fun ab t=>K ⟨[(1,(op 0)),(2,(op 1)),(4,(op 2)),(6,(iv ab))],(hq [(bP b 0 a),(bQ 0 [(iv 0),(iv 0),(iv 0)]),(bQ 0 t)])⟩
def fG (b:Bool) (a:LA) (K:St→O R):=fun ah u=>K ⟨[(1,(op 0)),(2,(op 1)),(4,(op 2)),(5,(iv ah))],(hq [(bP b 0 a),(bQ 0 [(iv 0),(iv 0),(iv 0)]),(bQ 0 u)])⟩
theorem oQ (Q0) (F:KF R) (b a):Aai b a (A0 (Eg N F (pz 87105) [Q0]))=(S8 N (fG b a Q0) (Md F) b a):=by kernel_rfl
theorem j9 (Q7 Q9) (F:KF R) (c d b a f g):∀ n,vu c d b a f g (Ao (Eg N F (pz 24019179469541444) [Q7,Q9]) n)=(Is N (Kv b a Q7) (MV c d b a f g Q9) (Md F) c d b a f g n):=D3 fun n e=>(Bn (Ta N (Kv b a Q7) (MV c d b a f g Q9) (Md F) c d b a f g) e:_)
theorem oR (Q7) (F:KF R) (c d b a f g):∀ n,MV c d b a f g (Ao (Eg N F (pz 366503592980) [Q7]) n)=(H4 N (Kv b a Q7) (Md F) c d b a f g n):=D3 fun n e=>(Yq (Ww N (Kv b a Q7) (Md F) c d b a f g) e ((lW ..).trans ((j9 ..).trans (vO (Is _ _ · _ _ _ _ _ _ _ _) e))):_)
theorem oS (Q7) (F:KF R) (b a):Aaj b a (A0 (Eg N F (pz 357913665) [Q7]))=(Z3 N (Kv b a Q7) (Md F) b a):=(Bn (G_ N (Kv b a Q7) (Md F) b a) (Ah5 fun c d f g=>(lW ..).trans (oR ..)):_)
theorem oT (F:KF R) (b a):∀ n,Kv b a (Ao (Eg N F (pz 22369604) []) n)=(Dq N (Md F) b a n):=D3 fun n e=>(Yq (Pn N (Md F) b a) e ((jW ..).trans ((oS ..).trans (vO (Z3 _ · _ _ _) e))):_)
theorem oU (F:KF R) (b a):∀ n,Aak b a (Ao (Eg N F (pz 5592388) []) n)=(Kq N (Md F) b a n):=D3 fun n e=>(Yq (Wx N (Md F) b a) e ((lW ..).trans (oT ..)):_)
theorem oV (F:KF R) (b a):∀ n,Aal b a (Ao (Eg N F (pz 1398084) []) n)=(Kr N (Md F) b a n):=D3 fun n e=>(Yq (Wy N (Md F) b a) e ((lW ..).trans (oU ..)):_)
theorem oW (F:KF R) (b a):∀ n,Aam b a (Ao (Eg N F (pz 349508) []) n)=(Ks N (Md F) b a n):=D3 fun n e=>(Yq (Wz N (Md F) b a) e ((lW ..).trans (oV ..)):_)
theorem oX (F:KF R) (b a):∀ n,Aan b a (Ao (Eg N F (pz 87364) []) n)=(Kt N (Md F) b a n):=D3 fun n e=>(Yq (W0 N (Md F) b a) e ((lW ..).trans (oW ..)):_)
theorem oY (F:KF R) (b a):∀ n,Aao b a (Ao (Eg N F (pz 21828) []) n)=(Ku N (Md F) b a n):=D3 fun n e=>(Yq (W1 N (Md F) b a) e ((lW ..).trans (oX ..)):_)
theorem oZ (F:KF R) (b a):∀ n,fG b a (Ao (Eg N F (pz 5444) []) n)=(H5 N (Md F) b a n):=D3 fun n e=>(Axl (W2 N (Md F) b a) e ((jW ..).trans ((oQ ..).trans (vO (S8 _ · _ _ _) e))) ((lW ..).trans (oY ..)):_)
def mS:=Bj N 35 (mR N) fF (fun
 | [(.pagg a b)],[]=>some fun _ k=>BD N a b (Md k)
 | _,_=>none) fun _ _=>by split;intro R F;exact(Bn (MU N (Md F) · _ _) ((lW ..).trans (oZ ..)):_).trans (ZB ..).symm;trivial
def MW (k2:Int→Int→Nat→LA→O R) (r0:LA→O R) (l:Int) (a:LA) (b:Nat) (c:Bool) (g:Int) (f d:Nat) (h i:LA) (av aw:Int) (y:Nat) (ax:LA):O R :=
 (Ac N l a b false c aw fun ba bo=>Ac N (wrap .i64 (l - 1)) a b false c bo fun bp bq=>cond (l==0) none (Sm N (y:Int) ba (Int.tmod (wrap .i64 ((wrap .i64 (ba+1))+bp)) l) g a b false c bq fun bb br=>cond ((beq (bb.length) 12)&&(ble 12 12)) (cond ((ble (y+1) 140737488355328)&&(ble ((y+1)*120) 140737488355328)) (k2 (wrap .i64 (av - 1)) br (y+1) ((ax.take (y*12))++((setCells [(.str ([]:Lu)),(.int .i64 0),(.int .i64 0),(.int .i64 0),(.int .i64 0),(.int .i64 0),(.int .i64 0),(.int .i64 0),(.int .i64 0),(.int .i64 0),(.int .i64 0),.nsl] 0 bb).take 12))) none) none))
def MX (k7:Int→Int→Nat→LA→O R) (r0:LA→O R) (a:LA) (b:Nat) (c:Bool) (g:Int) (f d m j q s:Nat) (h i o p r t:LA) (ar ay:Int) (u:Nat) (am:LA):O R :=
 (My N (u:Int) (m:Int) (j:Int) a b false c ay fun an bc=>cond ((beq 0 0)&&((beq (an.length) 4)&&(beq 4 4))) (cond ((ble (0+u) 140737488355328)&&(ble ((0+u)*72) 140737488355328)) (cond (ble 4 (an.length)) (cond ((beq ((an.take 4).length) 4)&&(ble 4 4)) (cond ((ble ((0+u)+1) 140737488355328)&&(ble (((0+u)+1)*72) 140737488355328)) (BD N [(.int .i64 g),(.imm (h.take (f*1)) f 1 false true),(.imm (i.take (d*3)) d 3 false true),(.imm (o.take (m*12)) m 12 false true),(.imm (p.take (j*22)) j 22 false true),(.imm (r.take (q*9)) q 9 false true),(.imm (t.take (s*5)) s 5 false true),(.imm (take (((0+u)+1)*4) (((am.take (u*4)).take ((0+u)*4))++((setCells [(.str ([]:Lu)),.nsl,(.bool false),.nsl] 0 (an.take 4)).take 4))) ((0+u)+1) 4 false true)] true fun bs bt=>cond ((beq (bs.length) 3)&&((ble 3 3)&&(!false))) (cond (bt==0) (k7 (wrap .i64 (ar - 1)) bc ((0+u)+1) (((am.take (u*4)).take ((0+u)*4))++((setCells [(.str ([]:Lu)),.nsl,(.bool false),.nsl] 0 (an.take 4)).take 4))) (k7 (wrap .i64 (ar - 1)) bc u am)) none) none) none) none) none) none)
def X3 (N:Nat) (r0:LA→O R) (a:LA) (b:Nat) (c:Bool) (g:Int) (f d m j q s:Nat) (h i o p r t:LA) (k7:Int→Int→Nat→LA→O R) (q8:Int→Int→Nat→LA→O R) (af ao:Int) (w:Nat) (z:LA):O R :=
 (cond ((decide (af>0))==true) (cond (cond true (decide ((m:Int)>0)) false) (q8 af ao w z) (r0 [(.int .i64 g),(.imm (h.take (f*1)) f 1 false false),(.imm (i.take (d*3)) d 3 false false),(.imm (o.take (m*12)) m 12 false false),(.imm (p.take (j*22)) j 22 false false),(.imm (r.take (q*9)) q 9 false false),(.imm (t.take (s*5)) s 5 false false),(.imm (z.take (w*4)) w 4 false false)])) (r0 [(.int .i64 g),(.imm (h.take (f*1)) f 1 false false),(.imm (i.take (d*3)) d 3 false false),(.imm (o.take (m*12)) m 12 false false),(.imm (p.take (j*22)) j 22 false false),(.imm (r.take (q*9)) q 9 false false),(.imm (t.take (s*5)) s 5 false false),(.imm (z.take (w*4)) w 4 false false)]))
def Gz (r0:LA→O R) (a:LA) (b:Nat) (c:Bool) (g:Int) (f d m j q s:Nat) (h i o p r t:LA):Nat→Int→Int→Nat→LA→O R
 | 0,_,_,_,_=>none
 | n+1,af,ao,w,z=>X3 N r0 a b c g f d m j q s h i o p r t (Gz r0 a b c g f d m j q s h i o p r t n) (MX N (Gz r0 a b c g f d m j q s h i o p r t n) r0 a b c g f d m j q s h i o p r t) af ao w z
def SW (r0:LA→O R) (a:LA) (b:Nat) (c:Bool) (g:Int) (f d m j q:Nat) (h i o p r:LA) (q7:Nat→LA→Int→Int→Nat→LA→O R) (ap:Int) (s:Nat) (t:LA):O R :=
 (Ac N 4 a b false c ap fun bu bv=>q7 s t bu bv 0 [])
def MY (r0:LA→O R) (a:LA) (b:Nat) (c:Bool) (g:Int) (f d m j q:Nat) (h i o p r:LA) (ap:Int) (s:Nat) (t:LA):O R:=(SW N r0 a b c g f d m j q h i o p r (fun s t=>Gz N r0 a b c g f d m j q s h i o p r t N) ap s t)
def EZ (r0:LA→O R) (l:Int) (a:LA) (b:Nat) (c:Bool) (g:Int) (f d m j:Nat) (h i o p:LA) (q6:Nat→LA→Int→Nat→LA→O R) (aq:Int) (q:Nat) (r:LA):O R :=
 (Ac N 3 a b false c aq fun bw bd=>cond (bw==2) (Ac N l a b false c bd fun bx bz=>Fg N g 12 a b false c bz fun be ca cb=>Fg N g 12 a b false c ca fun bf cc cd=>Fg N g 40 a b false c cc fun bg ce cf=>q6 q r ce 1 [(.str ([116,48]:Lu)),(.int .i64 bx),(.imm (cb.take (be*1)) be 1 false false),(.imm (cd.take (bf*1)) bf 1 false false),(.imm (cf.take (bg*1)) bg 1 false false)]) (q6 q r bd 0 []))
def CS (r0:LA→O R) (l:Int) (a:LA) (b:Nat) (c:Bool) (g:Int) (f d m j:Nat) (h i o p:LA) (aq:Int) (q:Nat) (r:LA):O R:=(EZ N r0 l a b c g f d m j h i o p (fun q r=>MY N r0 a b c g f d m j q h i o p r) aq q r)
def X4 (r0:LA→O R) (l:Int) (a:LA) (b:Nat) (c:Bool) (g:Int) (f d:Nat) (h i:LA) (k4:Int→Int→Nat→Nat→LA→LA→O R) (q5:Nat→Nat→LA→LA→Int→Nat→LA→O R) (ag ah:Int) (m j:Nat) (o p:LA):O R :=
 (cond (decide (ag>0)) (Sn N (j:Int) l g a b false c ah fun bh cg=>cond ((beq (bh.length) 22)&&(ble 22 22)) (cond ((ble (j+1) 140737488355328)&&(ble ((j+1)*216) 140737488355328)) (k4 (wrap .i64 (ag - 1)) cg m (j+1) o ((p.take (j*22))++((setCells [(.str ([]:Lu)),(.int .i64 0),(.int .i64 0),(.int .i64 0),.nsl,(.int .i64 0),(.int .i64 0),(.int .i64 0),(.int .i64 0),(.int .i64 0),(.int .i64 0),(.int .i64 0),(.int .i64 0),(.int .i64 0),(.int .i64 0),(.int .i64 0),(.int .i64 0),(.int .i64 0),.nsl,(.int .i64 0),(.int .i64 0),(.int .i64 0)] 0 bh).take 22))) none) none) (Ac N 3 a b false c ah fun ch bi=>cond (ch==2) (Ac N l a b false c bi fun ci cj=>Ac N 20 a b false c cj fun az ck=>Ac N 8 a b false c ck fun cl cm=>Ac N 8 a b false c cm fun cn co=>Ac N 4 a b false c co fun cp cq=>Ac N (wrap .i64 (az+1)) a b false c cq fun cr cs=>Ac N (wrap .i64 (az+1)) a b false c cs fun ct cu=>q5 m j o p cu 1 [(.str ([115,48]:Lu)),(.int .i64 ci),(.int .i64 az),(.int .i64 cr),(.int .i64 ct),(.int .i64 cl),(.int .i64 cn),(.int .i64 (wrap .i64 (1+cp))),(.int .i64 4)]) (q5 m j o p bi 0 [])))
def Nb (r0:LA→O R) (l:Int) (a:LA) (b:Nat) (c:Bool) (g:Int) (f d:Nat) (h i:LA):Nat→Int→Int→Nat→Nat→LA→LA→O R
 | 0,_,_,_,_,_,_=>none
 | n+1,ag,ah,m,j,o,p=>X4 N r0 l a b c g f d h i (Nb r0 l a b c g f d h i n) (fun m j o p=>CS N r0 l a b c g f d m j h i o p) ag ah m j o p
def X5 (r0:LA→O R) (l:Int) (a:LA) (b:Nat) (c:Bool) (g:Int) (f d:Nat) (h i:LA) (k2:Int→Int→Nat→LA→O R) (q3:Int→Int→Nat→LA→O R) (q4:Int→Int→Nat→Nat→LA→LA→O R) (ai aa:Int) (ab:Nat) (ac:LA):O R :=
 (cond ((decide (ai>0))==true) (cond (cond true (decide (l>1)) false) (q3 ai aa ab ac) (Ac N 3 a b false c aa fun cv cw=>q4 (wrap .i64 (1+cv)) cw ab 0 ac [])) (Ac N 3 a b false c aa fun cx cy=>q4 (wrap .i64 (1+cx)) cy ab 0 ac []))
def Nc (r0:LA→O R) (l:Int) (a:LA) (b:Nat) (c:Bool) (g:Int) (f d:Nat) (h i:LA):Nat→Int→Int→Nat→LA→O R
 | 0,_,_,_,_=>none
 | n+1,ai,aa,ab,ac=>X5 N r0 l a b c g f d h i (Nc r0 l a b c g f d h i n) (MW N (Nc r0 l a b c g f d h i n) r0 l a b c g f d h i) (Nb N r0 l a b c g f d h i N) ai aa ab ac
def E_ (r0:LA→O R) (a:LA) (b:Nat) (c:Bool) (g:Int) (f d:Nat) (h i:LA) (k1:Int→Int→Int→Nat→LA→O R) (q2:Int→Int→Int→Nat→LA→O R) (l x aj:Int) (v:Nat) (ak:LA):O R :=
 (cond (decide (x<l)) (Ac N x a b false c aj fun cz da=>Sm N (v:Int) cz x g a b false c da fun bj db=>cond ((beq (bj.length) 12)&&(ble 12 12)) (cond ((ble (v+1) 140737488355328)&&(ble ((v+1)*120) 140737488355328)) (k1 l (wrap .i64 (x+1)) db (v+1) ((ak.take (v*12))++((setCells [(.str ([]:Lu)),(.int .i64 0),(.int .i64 0),(.int .i64 0),(.int .i64 0),(.int .i64 0),(.int .i64 0),(.int .i64 0),(.int .i64 0),(.int .i64 0),(.int .i64 0),.nsl] 0 bj).take 12))) none) none) (Ac N 5 a b false c aj fun dc dd=>q2 l dc dd v ak))
def Vg (r0:LA→O R) (a:LA) (b:Nat) (c:Bool) (g:Int) (f d:Nat) (h i:LA):Nat→Int→Int→Int→Nat→LA→O R
 | 0,_,_,_,_,_=>none
 | n+1,l,x,aj,v,ak=>E_ N r0 a b c g f d h i (Vg r0 a b c g f d h i n) (fun l=>Nc N r0 l a b c g f d h i N) l x aj v ak
def X6 (r0:LA→O R) (a:LA) (b:Nat) (c:Bool) (f:Nat) (h:LA) (k0:Int→Int→Int→Nat→LA→O R) (q1:Int→Nat→LA→Int→Int→Int→Nat→LA→O R) (ad al g:Int) (d:Nat) (i:LA):O R :=
 (cond (decide (ad>0)) (MD N ([98]:Lu) (d:Int) fun bk=>Fg N g 14 a b false c al fun au de bl=>Ac N 2 a b false c de fun df bm=>cond (df==1) (Ac N 200 a b false c bm fun dg dh=>cond ((ble (d+1) 140737488355328)&&(ble ((d+1)*48) 140737488355328)) (k0 (wrap .i64 (ad - 1)) dh g (d+1) ((i.take (d*3))++[(.str bk),(.imm (bl.take (au*1)) au 1 false false),(.int .i64 (wrap .i64 (100+dg)))])) none) (cond ((ble (d+1) 140737488355328)&&(ble ((d+1)*48) 140737488355328)) (k0 (wrap .i64 (ad - 1)) bm g (d+1) ((i.take (d*3))++[(.str bk),(.imm (bl.take (au*1)) au 1 false false),(.int .i64 0)])) none)) (q1 g d i (d:Int) 1 al 0 []))
def Kw (r0:LA→O R) (a:LA) (b:Nat) (c:Bool) (f:Nat) (h:LA):Nat→Int→Int→Int→Nat→LA→O R
 | 0,_,_,_,_,_=>none
 | n+1,ad,al,g,d,i=>X6 N r0 a b c f h (Kw r0 a b c f h n) (fun g d i=>Vg N r0 a b c g f d h i N) ad al g d i
def fH (r0:LA→O R) (q0:Nat→LA→Int→Int→Int→Nat→LA→O R) (a:LA) (b:Nat) (ae c:Bool):O R :=
 (rL N a b false c (Ac N 3 a b false c 0 fun bn di=>Fg N (wrap .i64 (1+bn)) 5 a b false c di fun f dj h=>Ac N 4 a b false c dj fun dk dl=>q0 f h (wrap .i64 (1+dk)) dl (wrap .i64 (1+bn)) 0 []))
def fI:=(Af fun N a b ae c r0=>fH (R:=R) N r0 (fun f h=>Kw N r0 a b c f h N) a b ae c).1
theorem mT (a b ae c r0):(@fI R N a b ae c r0)=(fH N r0 (fun f h=>Kw N r0 a b c f h N) a b ae c):=by rw[fI,(Af _).2]
def rp:Hints:={ H:=(hK 4 (hS (hK 1 (hS (hP [2,3,4,5] hL) hL)) (hK 1 (hS (hK 1 (hS (hP [2,3,4,7,8] hL) hL)) (hS (hK 1 (hS (hP [2,3,4,7,9] (hJ [2,3,4,7,9] hL hL)) hL)) (hS (hK 1 (hS (hP [2,3,4,7,11] hL) hL)) (hJ [2,3,4,7] hL (hJ [2,3,4] hL (hS (hK 1 (hS (hP [2,3,4,13] (hJ [2,3,4,13] hL hL)) hL)) hL))))))))),modes:=[(3,0)],cob:=[23,44,192] }
def xv:N0:=[rM N,Ec N,oD N,WI N,rO N,rP N,jX N,mS N]
def Kx (F:KF R):=Hh Tryz.f10 rp (xv N) [] N F
def Ajj (l:Int) (a:LA) (b:Nat) (c:Bool) (g:Int) (f d:Nat) (h i:LA) (K:St→O R):=fun av aw y ax=>K ⟨[(2,(op 0)),(3,(op 1)),(4,(op 2)),(7,(iv l)),(9,(iv av))],(hq [(bN 0 [(iv 0),.nsl,.nsl,.nsl,.nsl,.nsl,.nsl,.nsl]),(bN 0 [(.imm a b 1 false c),(iv aw)]),(bN 0 [(iv g),(.own 300003 0 f),(.own 300004 0 d),(.own 300005 0 y),(.own 300006 0 0),(.own 300007 0 0),(.own 300008 0 0),(.own 300009 0 0)]),(bQ 1 h),(bQ 3 i),(bQ 12 ax),(bQ 22 []),(bQ 9 []),(bQ 5 []),(bQ 4 [])])⟩
def Ajk (a:LA) (b:Nat) (c:Bool) (g:Int) (f d m j q s:Nat) (h i o p r t:LA) (K:St→O R):=fun ar ay u am=>K ⟨[(2,(op 0)),(3,(op 1)),(4,(op 2)),(13,(iv ar))],(hq [(bN 0 [(iv 0),.nsl,.nsl,.nsl,.nsl,.nsl,.nsl,.nsl]),(bN 0 [(.imm a b 1 false c),(iv ay)]),(bN 0 [(iv g),(.own 300003 0 f),(.own 300004 0 d),(.own 300005 0 m),(.own 300006 0 j),(.own 300007 0 q),(.own 300008 0 s),(.own 300009 0 u)]),(bQ 1 h),(bQ 3 i),(bQ 12 o),(bQ 22 p),(bQ 9 r),(bQ 5 t),(bQ 4 am)])⟩
def rq (a:LA) (b:Nat) (c:Bool) (g:Int) (f d m j q s:Nat) (h i o p r t:LA) (K:St→O R):=fun af ao w z=>K ⟨[(2,(op 0)),(3,(op 1)),(4,(op 2)),(13,(iv af))],(hq [(bN 0 [(iv 0),.nsl,.nsl,.nsl,.nsl,.nsl,.nsl,.nsl]),(bN 0 [(.imm a b 1 false c),(iv ao)]),(bN 0 [(iv g),(.own 300003 0 f),(.own 300004 0 d),(.own 300005 0 m),(.own 300006 0 j),(.own 300007 0 q),(.own 300008 0 s),(.own 300009 0 w)]),(bQ 1 h),(bQ 3 i),(bQ 12 o),(bQ 22 p),(bQ 9 r),(bQ 5 t),(bQ 4 z)])⟩
def Ajl (a:LA) (b:Nat) (c:Bool) (g:Int) (f d m j q:Nat) (h i o p r:LA) (K:St→O R):=fun ap s t=>K ⟨[(2,(op 0)),(3,(op 1)),(4,(op 2))],(hq [(bN 0 [(iv 0),.nsl,.nsl,.nsl,.nsl,.nsl,.nsl,.nsl]),(bN 0 [(.imm a b 1 false c),(iv ap)]),(bN 0 [(iv g),(.own 300003 0 f),(.own 300004 0 d),(.own 300005 0 m),(.own 300006 0 j),(.own 300007 0 q),(.own 300008 0 s),(.own 300009 0 0)]),(bQ 1 h),(bQ 3 i),(bQ 12 o),(bQ 22 p),(bQ 9 r),(bQ 5 t),(bQ 4 [])])⟩
def Ajm (l:Int) (a:LA) (b:Nat) (c:Bool) (g:Int) (f d m j:Nat) (h i o p:LA) (K:St→O R):=fun aq q r=>K ⟨[(2,(op 0)),(3,(op 1)),(4,(op 2)),(7,(iv l))],(hq [(bN 0 [(iv 0),.nsl,.nsl,.nsl,.nsl,.nsl,.nsl,.nsl]),(bN 0 [(.imm a b 1 false c),(iv aq)]),(bN 0 [(iv g),(.own 300003 0 f),(.own 300004 0 d),(.own 300005 0 m),(.own 300006 0 j),(.own 300007 0 q),(.own 300008 0 0),(.own 300009 0 0)]),(bQ 1 h),(bQ 3 i),(bQ 12 o),(bQ 22 p),(bQ 9 r),(bQ 5 []),(bQ 4 [])])⟩
def Ajn (l:Int) (a:LA) (b:Nat) (c:Bool) (g:Int) (f d:Nat) (h i:LA) (K:St→O R):=fun ag ah m j o p=>K ⟨[(2,(op 0)),(3,(op 1)),(4,(op 2)),(7,(iv l)),(11,(iv ag))],(hq [(bN 0 [(iv 0),.nsl,.nsl,.nsl,.nsl,.nsl,.nsl,.nsl]),(bN 0 [(.imm a b 1 false c),(iv ah)]),(bN 0 [(iv g),(.own 300003 0 f),(.own 300004 0 d),(.own 300005 0 m),(.own 300006 0 j),(.own 300007 0 0),(.own 300008 0 0),(.own 300009 0 0)]),(bQ 1 h),(bQ 3 i),(bQ 12 o),(bQ 22 p),(bQ 9 []),(bQ 5 []),(bQ 4 [])])⟩
def rs (l:Int) (a:LA) (b:Nat) (c:Bool) (g:Int) (f d:Nat) (h i:LA) (K:St→O R):=fun ai aa ab ac=>K ⟨[(2,(op 0)),(3,(op 1)),(4,(op 2)),(7,(iv l)),(9,(iv ai))],(hq [(bN 0 [(iv 0),.nsl,.nsl,.nsl,.nsl,.nsl,.nsl,.nsl]),(bN 0 [(.imm a b 1 false c),(iv aa)]),(bN 0 [(iv g),(.own 300003 0 f),(.own 300004 0 d),(.own 300005 0 ab),(.own 300006 0 0),(.own 300007 0 0),(.own 300008 0 0),(.own 300009 0 0)]),(bQ 1 h),(bQ 3 i),(bQ 12 ac),(bQ 22 []),(bQ 9 []),(bQ 5 []),(bQ 4 [])])⟩
def Ajo (a:LA) (b:Nat) (c:Bool) (g:Int) (f d:Nat) (h i:LA) (K:St→O R):=fun l x aj v ak=>K ⟨[(2,(op 0)),(3,(op 1)),(4,(op 2)),(7,(iv l)),(8,(iv x))],(hq [(bN 0 [(iv 0),.nsl,.nsl,.nsl,.nsl,.nsl,.nsl,.nsl]),(bN 0 [(.imm a b 1 false c),(iv aj)]),(bN 0 [(iv g),(.own 300003 0 f),(.own 300004 0 d),(.own 300005 0 v),(.own 300006 0 0),(.own 300007 0 0),(.own 300008 0 0),(.own 300009 0 0)]),(bQ 1 h),(bQ 3 i),(bQ 12 ak),(bQ 22 []),(bQ 9 []),(bQ 5 []),(bQ 4 [])])⟩
def Ajp (a:LA) (b:Nat) (c:Bool) (f:Nat) (h:LA) (K:St→O R):=fun ad al g d i=>K ⟨[(2,(op 0)),(3,(op 1)),(4,(op 2)),(5,(iv ad))],(hq [(bN 0 [(iv 0),.nsl,.nsl,.nsl,.nsl,.nsl,.nsl,.nsl]),(bN 0 [(.imm a b 1 false c),(iv al)]),(bN 0 [(iv g),(.own 300003 0 f),(.own 300004 0 d),(.own 300005 0 0),(.own 300006 0 0),(.own 300007 0 0),(.own 300008 0 0),(.own 300009 0 0)]),(bQ 1 h),(bQ 3 i),(bQ 12 []),(bQ 22 []),(bQ 9 []),(bQ 5 []),(bQ 4 [])])⟩
theorem vw (Q2) (F:KF R) (l a b c g f d h i):Ajj l a b c g f d h i (A0 (Kx N F (pz 22369345) [Q2]))=(MW N (rs l a b c g f d h i Q2) (Da F) l a b c g f d h i):=by kernel_rfl
theorem vz (Q7) (F:KF R) (a b c g f d m j q s h i o p r t):Ajk a b c g f d m j q s h i o p r t (A0 (Kx N F (pz 5726622785) [Q7]))=(MX N (rq a b c g f d m j q s h i o p r t Q7) (Da F) a b c g f d m j q s h i o p r t):=by kernel_rfl
theorem wB (F:KF R) (a b c g f d m j q s h i o p r t):∀ n,rq a b c g f d m j q s h i o p r t (Ao (Kx N F (pz 357913924) []) n)=(Gz N (Da F) a b c g f d m j q s h i o p r t n):=D3 fun n e=>(Yq (X3 N (Da F) a b c g f d m j q s h i o p r t) e ((jW ..).trans ((vz ..).trans (vO (MX _ · _ _ _ _ _ _ _ _ _ _ _ _ _ _ _ _ _) e))):_)
theorem wC (F:KF R) (a b c g f d m j q h i o p r):Ajl a b c g f d m j q h i o p r (A0 (Kx N F (pz 5592405) []))=(MY N (Da F) a b c g f d m j q h i o p r):=(Bn (SW N (Da F) a b c g f d m j q h i o p r) (vP fun s t=>(lW ..).trans (wB ..)):_)
theorem wD (F:KF R) (l a b c g f d m j h i o p):Ajm l a b c g f d m j h i o p (A0 (Kx N F (pz 1398101) []))=(CS N (Da F) l a b c g f d m j h i o p):=(Bn (EZ N (Da F) l a b c g f d m j h i o p) (vP fun q r=>(jW ..).trans (wC ..)):_)
theorem wE (F:KF R) (l a b c g f d h i):∀ n,Ajn l a b c g f d h i (Ao (Kx N F (pz 5592388) []) n)=(Nb N (Da F) l a b c g f d h i n):=D3 fun n e=>(Yq (X4 N (Da F) l a b c g f d h i) e (Ah5 fun m j o p=>(jW ..).trans (wD ..)):_)
theorem wF (F:KF R) (l a b c g f d h i):∀ n,rs l a b c g f d h i (Ao (Kx N F (pz 1398084) []) n)=(Nc N (Da F) l a b c g f d h i n):=D3 fun n e=>(Axl (X5 N (Da F) l a b c g f d h i) e ((jW ..).trans ((vw ..).trans (vO (MW _ · _ _ _ _ _ _ _ _ _ _) e))) ((lW ..).trans (wE ..)):_)
theorem wG (F:KF R) (a b c g f d h i):∀ n,Ajo a b c g f d h i (Ao (Kx N F (pz 349508) []) n)=(Vg N (Da F) a b c g f d h i n):=D3 fun n e=>(Yq (E_ N (Da F) a b c g f d h i) e (Ai5 fun l=>(lW ..).trans (wF ..)):_)
theorem wH (F:KF R) (a b c f h):∀ n,Ajp a b c f h (Ao (Kx N F (pz 21828) []) n)=(Kw N (Da F) a b c f h n):=D3 fun n e=>(Yq (X6 N (Da F) a b c f h) e (Avo fun g d i=>(lW ..).trans (wG ..)):_)
def Aok:=Bj N 10 (xv N) rp (fun
 | [(.imm a b 1 ae c)],[]=>some fun _ k=>fI N a b ae c (Da k)
 | _,_=>none) fun _ _=>by split;intro R F;exact(Bn (fH N (Da F) · _ _ _ _) (vP fun f h=>(lW ..).trans (wH ..)):_).trans (mT ..).symm;trivial
def SX (a:LA) (c:Bool) (b:Int) (r0:Nat→LA→O R):O R :=
 (cond (ble 8 (a.length)) (BD N (a.take 8) c fun d e=>cond ((beq (d.length) 3)&&((ble 3 3)&&(!false))) (cond ((e != 0)==false) (cond ((cond false true (decide (b<0)))==false) (As .i64 a fun f=>cond (cond false true (decide (b≥f))) (r0 0 []) (cond (ble 8 (a.length)) (Ir N (a.take 8) c b fun g h=>r0 g h) none)) (r0 0 [])) (r0 0 [])) none) none)
def CT:=(Af (@SX R)).1
theorem SY:@CT R=@SX R:=(Af _).2
def Aap:=Bj N 157 [mS N,PQ N] { H:=hL,nils:=[(4,1)],modes:=[(2,1)] } (fun
 | [(.pagg a c),(.int .i64 b)],[]=>some fun _ k=>CT N a c b (Ca k)
 | _,_=>none) fun _ _=>by split;intro R F;dsimp only;rw[SY];kernel_rfl;trivial
def Qd (r0:Nat→LA→O R) (a:Int) (f:Nat) (c:Bool) (b g:LA) (k1:Nat→Int→Int→LA→O R) (h:Nat) (j i:Int) (l:LA):O R :=
 (cond (decide (i<j)) (cond (Ae i f) (As .i64 (g.drop (0+((i.toNat)*1))) fun m=>Aw 4 (b.drop 7) fun o p=>cond (Ae a p) (Aw 1 ((o.drop ((a.toNat)*4)).drop 1) fun q r=>EU N q r false c m fun s=>cond s (cond ((ble (h+1) 140737488355328)&&(ble ((h+1)*8) 140737488355328)) (k1 (h+1) j (wrap .i64 (i+1)) ((l.take (h*1))++[(.int .i64 m)])) none) (k1 h j (wrap .i64 (i+1)) l)) none) none) (r0 h l))
def Eh (r0:Nat→LA→O R) (a:Int) (f:Nat) (c:Bool) (b g:LA):Nat→Nat→Int→Int→LA→O R
 | 0,_,_,_,_=>none
 | n+1,h,j,i,l=>Qd N r0 a f c b g (Eh r0 a f c b g n) h j i l
def Yu (r0:Nat→LA→O R) (a d:Int) (c:Bool) (b:LA) (q1:Nat→LA→Nat→Int→Int→LA→O R):O R :=
 (cond (ble 8 (b.length)) (CT N (b.take 8) c d fun f g=>q1 f g 0 (f:Int) 0 []) none)
def Tb (r0:Nat→LA→O R) (a d:Int) (c:Bool) (b:LA):O R:=(Yu N r0 a d c b fun f g=>Eh N r0 a f c b g N)
def Z4 (N:Nat) (r0:Nat→LA→O R) (q0:O R) (b:LA) (c:Bool) (a d:Int):O R :=
 (cond ((decide (a<0))==false) (Aw 4 (b.drop 7) fun u t=>cond (cond false true (decide (a≥(t:Int)))) (r0 0 []) q0) (r0 0 []))
def E':=(Af fun N b c a d r0=>Z4 (R:=R) N r0 (Tb N r0 a d c b) b c a d).1
theorem PW (b c a d r0):(@E' R N b c a d r0)=(Z4 N r0 (Tb N r0 a d c b) b c a d):=by rw[E',(Af _).2]
def SZ:Hints:={ H:=(hK 2 (hJ [1,2,3,7] hL (hS (hK 1 (hS (hP [1,3,7,21,22,23] hL) hL)) hL))),nils:=[(6,1),(7,1)],modes:=[(2,1)] }
def ZC:N0:=[Aap N,WK N]
def S_ (F:KF R):=Hh Tryz.f102 SZ (ZC N) [] N F
def rt (a:Int) (f:Nat) (c:Bool) (b g:LA) (K:St→O R):=fun h j i l=>K ⟨[(1,(iv a)),(3,(op 0)),(7,(.own 300001 0 h)),(21,(.own 300002 0 f)),(22,(iv j)),(23,(iv i))],(hq [(bP c 0 b),(bQ 1 l),(bQ 1 g)])⟩
def rz (a d:Int) (c:Bool) (b:LA) (K:St→O R):=K ⟨[(1,(iv a)),(2,(iv d)),(3,(op 0)),(7,(.own 300001 0 0))],(hq [(bP c 0 b),(bQ 1 [])])⟩
theorem fJ (F:KF R) (a f c b g):∀ n,rt a f c b g (Ao (S_ N F (pz 5444) []) n)=(Eh N (Ca F) a f c b g n):=D3 fun n e=>(Bn (Qd N (Ca F) a f c b g) e:_)
theorem fK (F:KF R) (a d c b):rz a d c b (A0 (S_ N F (pz 85) []))=(Tb N (Ca F) a d c b):=(Bn (Yu N (Ca F) a d c b) (vP fun f g=>(lW ..).trans (fJ ..)):_)
def wI:=Bj N 102 (ZC N) SZ (fun
 | [(.pagg b c),(.int .i64 a),(.int .i64 d)],[]=>some fun _ k=>E' N b c a d (Ca k)
 | _,_=>none) fun _ _=>by split;intro R F;exact(Bn (Z4 N (Ca F) · _ _ _ _) ((jW ..).trans (fK ..)):_).trans (PW ..).symm;trivial
end
end Gx
namespace Gx.Cf
open Go Go.Proofs
section
variable {R:Type}
theorem Ar6 {N:Nat} {c:CaseD} {p:Hz} {o:Bool} {j:Nat} {K:Int→LA→O R} {K2:LA→Int→O R} (hs:Small c N) (h:j<c.buses.l.length) :
  S8 N K K2 o c.av (j:Int) (Ct p)=K ((j+1:Nat):Int) (Ct (Aod c j c.buses.l[j] p)):=by
 have hN:=hs.n64
 have hN8:8≤N:=by omega
 have e:=hs.bus
 have t:c.buses.l[j] ∈ c.buses.l:=A0l h
 have u:=hs.dem _ t
 have q:=@Dj R N c (c.buses.l.map (·.name)) o (k:=1) (n:=j) (hN:=hN) (hL:=fun K=>Aez hs) (hn:=by simpa using h) (hs:=⟨by have:=e.1;omega,by have:=e.2;omega⟩)
 have s:(c.buses.l.map (·.name))[j]'(by simpa using h)=c.buses.l[j].name:=by simp
 rw[s] at q
 unfold S8
 simp only[Hi,De,ct,q,S6]
 rw[Aa h,ct,Az1,Be IX _ _ h]
 generalize c.buses.l[j]=b at *
 have v:∀ (r:LA) (f:LA→Nat→O R),Aw 1 (drop 1 (b.av++r)) f=f (Ap b.demand.l) b.demand.l.length:=fun r f=>by simp[BusD.av,A2,Ft]
 have z:∀ (r:LA) (f:Int→O R),As .i64 (drop 2 (b.av++r)) f=f b.shed:=fun r f=>by simp[BusD.av,Br]
 rw[v,Dy rfl u,ct,z,Dp hN8,Ai (by decide),Ez (by have:=e.2;omega)]
 rfl
theorem Aaq {p:Hz} {K:LA→Int→O R}:(cond (ble 3 (List.length (Ct p))) (As .i64 (drop 3 (Ct p)) fun x38=>cond ((beq (List.length (take 3 (Ct p))) 3)&&((ble 3 3)&&(!false))) (cond (ble 3 (List.length (setCells [(.int .i64 (0:Int)),(.int .i64 (0:Int)),(.int .i64 (0:Int))] 0 (take 3 (Ct p))))) (K (take 3 (setCells [(.int .i64 (0:Int)),(.int .i64 (0:Int)),(.int .i64 (0:Int))] 0 (take 3 (Ct p)))) x38) none) none) none)=K (w3 p) (Hg p):=by
 rcases p with _ | ⟨⟨a,b,f⟩,e,j⟩<;>simp[Ct,Arz,w3,Hg,Ep,setCells,D9,Br]
theorem mU {N:Nat} {c:CaseD} {o:Bool} {K:LA→Int→O R} (hs:Small c N):∀ (m j fuel:Nat) (p:Hz),j+m=c.buses.l.length→m<fuel →
  H5 N K o c.av fuel (j:Int) (Ct p)=Ku N K o c.av N 0 (Ct (Dr (Aod c) (c.buses.l.drop j) j p))
 | 0,j,fuel+1,p,n,_=>by
  rw[H5];unfold W2
  rw[S6,H2 (by omega),Pk (l:=c.buses.l) (by omega),Dr];rfl
 | m+1,j,fuel+1,p,n,t=>by
  rw[H5];unfold W2
  have h:j<c.buses.l.length:=by omega
  have k:=hs.bus
  rw[S6,Gh h,GZ,Ju (l:=c.buses.l) h,Dr]
  rcases p with _ | ⟨x,e,q⟩
  ·simp only[Hg,beq_self_eq_true,cond_true]
   rw[Ar6 hs h,mU hs m (j+1) fuel _ (by omega) (by omega)]
  ·have s:(e==0)=false:=by simpa using q
   simp only[Hg,s,beq_self_eq_true,cond_true,cond_false]
   rw[j7,Na (fun _ _=>j7 _ _ _)]
theorem mV {N:Nat} {c:CaseD} {o:Bool} {K:LA→Int→O R} (hs:Small c N):∀ (m j fuel:Nat) (p:Hz),j+m=c.lines.l.length→m<fuel →
  Ku N K o c.av fuel (j:Int) (Ct p)=Kt N K o c.av N 0 (Ct (Dr (mH c) (c.lines.l.drop j) j p))
 | 0,j,fuel+1,p,n,_=>by
  rw[Ku];unfold W1
  rw[Pl,H2 (by omega),Pk (l:=c.lines.l) (by omega),Dr];rfl
 | m+1,j,fuel+1,p,n,t=>by
  rw[Ku];unfold W1
  have h:j<c.lines.l.length:=by omega
  have k:=hs.lin
  rw[Pl,Gh h,GZ,Ju (l:=c.lines.l) h,Dr]
  rcases p with _ | ⟨x,e,q⟩
  ·simp only[Hg,beq_self_eq_true,cond_true]
   rw[Hi,ct,De,RC hs h,Ez (by have:=k.2;omega),mV hs m (j+1) fuel _ (by omega) (by omega)]
  ·have s:(e==0)=false:=by simpa using q
   simp only[Hg,s,beq_self_eq_true,cond_true,cond_false]
   rw[cB,Na (fun _ _=>cB _ _ _)]
theorem mW {N:Nat} {c:CaseD} {o:Bool} {K:LA→Int→O R} (hs:Small c N):∀ (m j fuel:Nat) (p:Hz),j+m=c.units.l.length→m<fuel →
  Kt N K o c.av fuel (j:Int) (Ct p)=Ks N K o c.av N 0 (Ct (Dr (r_ c) (c.units.l.drop j) j p))
 | 0,j,fuel+1,p,n,_=>by
  rw[Kt];unfold W0
  rw[Ef,H2 (by omega),Pk (l:=c.units.l) (by omega),Dr];rfl
 | m+1,j,fuel+1,p,n,t=>by
  rw[Kt];unfold W0
  have h:j<c.units.l.length:=by omega
  have k:=hs.uni
  rw[Ef,Gh h,GZ,Ju (l:=c.units.l) h,Dr]
  rcases p with _ | ⟨x,e,q⟩
  ·simp only[Hg,beq_self_eq_true,cond_true]
   rw[Hi,ct,De,RD hs h,Ez (by have:=k.2;omega),mW hs m (j+1) fuel _ (by omega) (by omega)]
  ·have s:(e==0)=false:=by simpa using q
   simp only[Hg,s,beq_self_eq_true,cond_true,cond_false]
   rw[cC,Na (fun _ _=>cC _ _ _)]
theorem mX {N:Nat} {c:CaseD} {o:Bool} {K:LA→Int→O R} (hs:Small c N):∀ (m j fuel:Nat) (p:Hz),j+m=c.stores.l.length→m<fuel →
  Ks N K o c.av fuel (j:Int) (Ct p)=Kr N K o c.av N 0 (Ct (Dr (b7 c) (c.stores.l.drop j) j p))
 | 0,j,fuel+1,p,n,_=>by
  rw[Ks];unfold Wz
  rw[BC,H2 (by omega),Pk (l:=c.stores.l) (by omega),Dr];rfl
 | m+1,j,fuel+1,p,n,t=>by
  rw[Ks];unfold Wz
  have h:j<c.stores.l.length:=by omega
  have k:=hs.sto
  rw[BC,Gh h,GZ,Ju (l:=c.stores.l) h,Dr]
  rcases p with _ | ⟨x,e,q⟩
  ·simp only[Hg,beq_self_eq_true,cond_true]
   rw[Hi,ct,De,MS hs h,Ez (by have:=k.2;omega),mX hs m (j+1) fuel _ (by omega) (by omega)]
  ·have s:(e==0)=false:=by simpa using q
   simp only[Hg,s,beq_self_eq_true,cond_true,cond_false]
   rw[SV,Na (fun _ _=>SV _ _ _)]
theorem mY {N:Nat} {c:CaseD} {o:Bool} {K:LA→Int→O R} (hs:Small c N):∀ (m j fuel:Nat) (p:Hz),j+m=c.ties.l.length→m<fuel →
  Kr N K o c.av fuel (j:Int) (Ct p)=Kq N K o c.av N 0 (Ct (Dr (Aoe c) (c.ties.l.drop j) j p))
 | 0,j,fuel+1,p,n,_=>by
  rw[Kr];unfold Wy
  rw[WM,H2 (by omega),Pk (l:=c.ties.l) (by omega),Dr];rfl
 | m+1,j,fuel+1,p,n,t=>by
  rw[Kr];unfold Wy
  have h:j<c.ties.l.length:=by omega
  have k:=hs.tie
  rw[WM,Gh h,GZ,Ju (l:=c.ties.l) h,Dr]
  rcases p with _ | ⟨x,e,q⟩
  ·simp only[Hg,beq_self_eq_true,cond_true]
   rw[Hi,ct,De,ST hs h,Ez (by have:=k.2;omega),mY hs m (j+1) fuel _ (by omega) (by omega)]
  ·have s:(e==0)=false:=by simpa using q
   simp only[Hg,s,beq_self_eq_true,cond_true,cond_false]
   rw[j8,Na (fun _ _=>j8 _ _ _)]
theorem mZ {N:Nat} {c:CaseD} {o:Bool} {K:LA→Int→O R} (hs:Small c N):∀ (m j fuel:Nat) (p:Hz),j+m=c.outs.l.length→m<fuel →
  Kq N K o c.av fuel (j:Int) (Ct p)=Dq N K o c.av N 0 (Ct (Dr (Aey c) (c.outs.l.drop j) j p))
 | 0,j,fuel+1,p,n,_=>by
  rw[Kq];unfold Wx
  rw[Ob,H2 (by omega),Pk (l:=c.outs.l) (by omega),Dr];rfl
 | m+1,j,fuel+1,p,n,t=>by
  rw[Kq];unfold Wx
  have h:j<c.outs.l.length:=by omega
  have k:=hs.out
  rw[Ob,Gh h,GZ,Ju (l:=c.outs.l) h,Dr]
  rcases p with _ | ⟨x,e,q⟩
  ·simp only[Hg,beq_self_eq_true,cond_true]
   rw[Hi,ct,De,JA hs h,Ez (by have:=k.2;omega),mZ hs m (j+1) fuel _ (by omega) (by omega)]
  ·have s:(e==0)=false:=by simpa using q
   simp only[Hg,s,beq_self_eq_true,cond_true,cond_false]
   rw[j5,Na (fun _ _=>j5)]
def CU (ol:List Int):List Int→Nat→List Int
 | [],_=>[]
 | a::r,j=>cond (ol.contains a) ((j:Int)::CU ol r (j+1)) (CU ol r (j+1))
theorem Ae1 (ol:List Int):∀ (l:List Int) (j:Nat) (x:Int),x ∈ CU ol l j→(j:Int)≤x
 | [],_,_,h=>by simp[CU] at h
 | a::r,j,x,h=>by
  rw[CU] at h
  have e:=Ae1 ol r (j+1) x
  cases k:ol.contains a<;>rw[k] at h<;>simp at h
  ·have:=e h;omega
  ·rcases h with rfl | h
   ·omega
   ·have:=e h;omega
theorem j_ {f:Int→Nat×Nat} (ol:List Int):∀ (l:List Int) (j:Nat) (pre:List Int),(∀ x ∈ pre,x<(j:Int))→fE (pre++CU ol l j) (l.map f) j=((l.filter fun a=>!ol.contains a).map f)
 | [],_,_,_=>rfl
 | a::r,j,pre,q=>by
  rw[A0n,fE,CU,A3l]
  have k:¬ (j:Int) ∈ pre:=fun h=>by have:=q _ h;omega
  cases t:ol.contains a with
  | true =>
   have s:(pre++cond true ((j:Int)::CU ol r (j+1)) (CU ol r (j+1))).contains (j:Int)=true:=by simp
   rw[s]
   have:=j_ (f:=f) ol r (j+1) (pre++[(j:Int)]) (by
    intro x e
    rcases A0f.1 e with n | n
    ·have:=q x n;omega
    ·simp at n;omega)
   simp only[cond_true,A3f,A3p,if_false]
   rw[←this];simp
  | false =>
   have s:(pre++cond false ((j:Int)::CU ol r (j+1)) (CU ol r (j+1))).contains (j:Int)=false:=by
    simp only[cond_false]
    rw[List.contains_eq_mem]
    simp only[decide_eq_false_iff_not,A0f,not_or]
    exact⟨k,fun n=>by have:=Ae1 ol r (j+1) _ n;omega⟩
   rw[s]
   have:=j_ (f:=f) ol r (j+1) pre (by intro x e;have:=q x e;omega)
   simp only[cond_false,A2c,if_true,A0n]
   rw[this]
theorem MZ {N:Nat} {c:CaseD} {o:Bool} {hr:Int} {j:Nat} {p:Hz} {K7:Int→LA→O R} {K9:Int→Int→LA→O R} {K:LA→Int→O R} (hs:Small c N) (hN:4096≤N) (v:PreV c) (h:j<c.outs.l.length):∀ (m q fuel:Nat) (A:List Int),q+m=(A1 c hr).length→m<fuel→A.length≤q →
  A++CU c.outs.l[j].lines.l ((A1 c hr).drop q) q=CU c.outs.l[j].lines.l (A1 c hr) 0 →
  Is N K7 K9 K (A1 c hr).length (A1 c hr).length o c.av (((A1 c hr).map (Hj c)).flatMap Bm) (Ap (A1 c hr)) fuel hr (j:Int) A.length (q:Int) (Ct p) (Ap A)=K9 hr ((j+1:Nat):Int) (Ct (Ar5 c hr j c.outs.l[j] p))
 | 0,q,fuel+1,A,hq,_,hA,k=>by
  rw[Is];unfold Ta
  have G:=JB hr c.lines.l 0
  have I:=v.nl
  have s:=v.nb
  have t:=hs.out
  have U:c.buses.l.length*c.buses.l.length≤32*32:=A27 s s
  have u:(A1 c hr).length≤64:=by unfold A1;omega
  rw[Pk (l:=A1 c hr) (by omega),CU,A1y] at k
  have D:∀ e ∈ (A1 c hr).map (Hj c),e.1<c.buses.l.length∧e.2<c.buses.l.length:=by
   intro e D
   simp only[A04] at D
   obtain⟨l,L,rfl⟩:=D
   obtain⟨x,n⟩:=v.lnV L
   rw[Ami n];exact⟨n.f1,n.t1⟩
  rw[H2 (by omega),cf,S6,Az0 (by rw[WN];simp),A0b,Az0 (by rw[Dw];exact Az3 _),
   ro (by simp) rfl (by simp;omega) (by simp;omega) (by omega) (by omega) D ⟨by omega,by omega⟩,Ai (by decide),Ez (by have:=t.2;omega)]
  have e1:fE A ((A1 c hr).map (Hj c)) 0=(((A1 c hr).filter fun a=>!c.outs.l[j].lines.l.contains a).map (Hj c)):=by
   rw[k]
   have:=j_ (f:=Hj c) c.outs.l[j].lines.l (A1 c hr) 0 [] (by simp)
   simpa using this
  rw[e1]
  have S:X2 c.buses.l.length ((A1 c hr).map (Hj c))≤X2 c.buses.l.length (((A1 c hr).filter fun a=>!c.outs.l[j].lines.l.contains a).map (Hj c)):=Ajf (by
   intro e z
   simp only[A04,A23] at z ⊢
   obtain⟨l,⟨L,_⟩,rfl⟩:=z
   exact⟨l,L,rfl⟩)
  have V:(!decide ((X2 c.buses.l.length (((A1 c hr).filter fun a=>!c.outs.l[j].lines.l.contains a).map (Hj c)):Int)>(X2 c.buses.l.length ((A1 c hr).map (Hj c)):Int)))=Ar4 c hr c.outs.l[j]:=by
   unfold Ar4
   generalize X2 c.buses.l.length ((A1 c hr).map (Hj c))=x at *
   generalize X2 c.buses.l.length (((A1 c hr).filter fun a=>!c.outs.l[j].lines.l.contains a).map (Hj c))=y at *
   by_cases T:x=y
   ·subst T;simp
   ·have a1:((y:Int)==(x:Int))=false:=by simp;omega
    rw[a1];simp;omega
  rw[V];rfl
 | m+1,q,fuel+1,A,hq,hf,hA,k=>by
  rw[Is];unfold Ta
  have C:q<(A1 c hr).length:=by omega
  have G:=JB hr c.lines.l 0
  have I:=v.nl
  have u:(A1 c hr).length≤64:=by unfold A1;omega
  have X:c.outs.l[j] ∈ c.outs.l:=A0l h
  have Y:=hs.oli _ X
  have b4:∀ (f:LA→Nat→O R),Aw 1 (drop 1 (drop (j*4) (List.flatMap OutD.av c.outs.l))) f=f (Ap c.outs.l[j].lines.l) c.outs.l[j].lines.l.length:=fun f=>by rw[Be Li _ _ h];simp[OutD.av,A2,Ft]
  have b3:(ble (A.length+1) 140737488355328&&ble ((A.length+1)*8) 140737488355328)=true:=by rw[Ep,Ep];simp;omega
  have b5:take (A.length*1) (Ap A)++[.int .i64 (q:Int)]=Ap (A++[(q:Int)]):=Aag (B:=[(q:Int)]) rfl
  rw[Gh C,ct,Ob,Aa h,ct,Az1,b4,Aa C,ct,Ar3 (by simpa using C),Az1,MT C,Z2 rfl Y,b3,ct,b5,Ez (by omega)]
  rw[Ju C,CU] at k
  cases n:c.outs.l[j].lines.l.contains (A1 c hr)[q] with
  | true =>
   rw[n] at k
   have F:=MZ (o:=o) (hr:=hr) (j:=j) (p:=p) (K7:=K7) (K9:=K9) (K:=K) hs hN v h m (q+1) fuel (A++[(q:Int)]) (by omega) (by omega) (by simp;omega) (by simpa using k)
   rw[Az2] at F
   simpa using F
  | false =>
   rw[n] at k
   have F:=MZ (o:=o) (hr:=hr) (j:=j) (p:=p) (K7:=K7) (K9:=K9) (K:=K) hs hN v h m (q+1) fuel A (by omega) (by omega) (by omega) (by simpa using k)
   simpa using F
theorem m0 {N:Nat} {c:CaseD} {o:Bool} {hr:Int} {K7:Int→LA→O R} {K:LA→Int→O R} (hs:Small c N) (hN:4096≤N) (v:PreV c):∀ (m j fuel:Nat) (p:Hz),j+m=c.outs.l.length→m<fuel →
  H4 N K7 K (A1 c hr).length (A1 c hr).length o c.av (((A1 c hr).map (Hj c)).flatMap Bm) (Ap (A1 c hr)) fuel hr (j:Int) (Ct p)=K7 (wrap .i64 (hr+1)) (Ct (Dr (Ar5 c hr) (c.outs.l.drop j) j p))
 | 0,j,fuel+1,p,e,_=>by
  rw[H4];unfold Ww
  rw[Ob,H2 (by omega),cf,Pk (l:=c.outs.l) (by omega),Dr]
 | m+1,j,fuel+1,p,e,s=>by
  rw[H4];unfold Ww
  have h:j<c.outs.l.length:=by omega
  have k:=JB hr c.lines.l 0
  have n:=v.nl
  have q:=m0 (o:=o) (hr:=hr) (K7:=K7) (K:=K) hs hN v m (j+1) fuel (Ar5 c hr j c.outs.l[j] p) (by omega) (by omega)
  have l10:=MZ (R:=R) (N:=N) (c:=c) (o:=o) (hr:=hr) (j:=j) (p:=p) (K7:=K7) (K9:=H4 N K7 K (A1 c hr).length (A1 c hr).length o c.av (((A1 c hr).map (Hj c)).flatMap Bm) (Ap (A1 c hr)) fuel) (K:=K) hs hN v h (A1 c hr).length 0 N [] (by omega) (by unfold A1;omega) (by simp) (by simp)
  rw[Ob,Gh h,ct,Ju (l:=c.outs.l) h,Dr,←q,←l10]
  rfl
theorem m7 {N H:Nat} {c:CaseD} {o:Bool} {K:LA→Int→O R} (hs:Small c N) (hN:4096≤N) (v:PreV c) (hH:c.hours=(H:Int)):∀ (m j fuel:Nat) (p:Hz),j+m=H→m<fuel →
  Dq N K o c.av fuel (j:Int) (Ct p)=K (w3 (Vf c m j p)) (Hg (Vf c m j p))
 | 0,j,fuel+1,p,k,_=>by
  rw[Dq];unfold Pn
  rw[Jj,hH,H2 (by omega),Aaq,Vf];rfl
 | m+1,j,fuel+1,p,k,t=>by
  rw[Dq];unfold Pn Z3 G_
  have hh:=v.hours
  rw[Jj,hH,Gh (by omega),GZ,Aaq]
  rcases p with _ | ⟨x,e,n⟩
  ·simp only[Hg,beq_self_eq_true,cond_true]
   have l9:=m0 (R:=R) (N:=N) (c:=c) (o:=o) (hr:=(j:Int)) (K7:=Dq N K o c.av fuel) (K:=K) hs hN v c.outs.l.length 0 N none (by omega) hs.out.1
   rw[Hi,ct,De,Ajh hs (fun l q=>v.lnV q)]
   simp only[A00,A2u] at l9
   rw[l9,Ez (by omega),m7 hs hN v hH m (j+1) fuel _ (by omega) (by omega)];rfl
  ·have s:(e==0)=false:=by simpa using n
   simp only[Hg,s,beq_self_eq_true,cond_true,cond_false]
   rw[mQ]
theorem Ae2 {N:Nat} {c:CaseD} {o:Bool} {y:(Int×Int×Int)×{ e:Int // e≠0 }} {K:LA→Int→O R} {fuel:Nat}:Dq N K o c.av (fuel+1) 0 (Ct (some y))=K (w3 (some y)) (Hg (some y)):=by
 rw[Dq];unfold Pn
 rw[Jj,GZ,Aaq]
 have j:(y.2.1==0)=false:=by simpa using y.2.2
 cases decide ((0:Int)<c.hours)<;>simp[Hg,j]
theorem TA {N:Nat} {c:CaseD} {o:Bool} {K:LA→Int→O R} (hs:Small c N) (hN:4096≤N):BD N c.av o K=K (w3 (Yt c)) (Hg (Yt c)):=by
 rw[ZB];unfold MU
 have e:[(.int .i64 (0:Int)),(.int .i64 (0:Int)),(.int .i64 (0:Int)),(.int .i64 (0:Int))]=Ct none:=rfl
 rw[Hi,ct,De,e,MR hs]
 have l0:=fun p=>mU (R:=R) (N:=N) (c:=c) (o:=o) (K:=K) hs c.buses.l.length 0 N p (by omega) hs.bus.1
 have l2:=fun p=>mV (R:=R) (N:=N) (c:=c) (o:=o) (K:=K) hs c.lines.l.length 0 N p (by omega) hs.lin.1
 have l3:=fun p=>mW (R:=R) (N:=N) (c:=c) (o:=o) (K:=K) hs c.units.l.length 0 N p (by omega) hs.uni.1
 have l4:=fun p=>mX (R:=R) (N:=N) (c:=c) (o:=o) (K:=K) hs c.stores.l.length 0 N p (by omega) hs.sto.1
 have l5:=fun p=>mY (R:=R) (N:=N) (c:=c) (o:=o) (K:=K) hs c.ties.l.length 0 N p (by omega) hs.tie.1
 have l6:=fun p=>mZ (R:=R) (N:=N) (c:=c) (o:=o) (K:=K) hs c.outs.l.length 0 N p (by omega) hs.out.1
 simp only[A00,A2u] at l0 l2 l3 l4 l5 l6
 try dsimp only
 rw[l0,l2,l3,l4,l5,l6]
 show Dq N K o c.av N 0 (Ct (vt c))=_
 unfold Yt
 cases j:vt c with
 | some y =>
  rcases N with _ | N
  ·omega
  ·exact Ae2
 | none =>
  have v:=Aoj j
  have hh:=v.hours
  have:=m7 (R:=R) (N:=N) (H:=c.hours.toNat) (c:=c) (o:=o) (K:=K) hs hN v (by omega) c.hours.toNat 0 N none (by omega) (by omega)
  simpa using this
theorem Awo (p:Hz):(w3 p).length=3:=by rcases p with _ | ⟨⟨a,b,f⟩,e⟩<;>rfl
theorem Ae3 (v n:Int) (q:1≤n) (s:n≤4611686018427387904):(wrap .u64 n==0)=false∧0≤wrap .i64 (Int.tmod (wrap .u64 v) (wrap .u64 n))∧wrap .i64 (Int.tmod (wrap .u64 v) (wrap .u64 n))<n:=by
 have hn:wrap .u64 n=n:=IntWalk.u64_in _ (by omega)
 have e:0≤wrap .u64 v:=by rw[IntKind.wrap_u64];omega
 rw[hn]
 have j:0≤Int.tmod (wrap .u64 v) n:=Int.tmod_nonneg _ e
 have k:Int.tmod (wrap .u64 v) n<n:=A57 _ (by omega)
 rw[wrap_i64 _ (by omega)]
 exact⟨by simp;omega,j,k⟩
theorem nx {N:Nat} {l:List Int} {t o:Bool} (A:l.length≤9223372036854775807) (n:Int) (q:1≤n) (s:n≤4611686018427387904) (k:Nat) (u:k≤l.length) :
  ∃ (v:Int) (e:Nat),0≤v∧v<n∧e≤l.length∧∀ K:Int→Int→O R,Ac N n (Ap l) l.length t o (k:Int) K=K v (e:Int):=by
 by_cases h:k<l.length
 ·obtain⟨a1,a2,a3⟩:=Ae3 l[k] n q s
  refine⟨_,k+1,a2,a3,by omega,fun K=>?_⟩
  rw[Va];unfold Wk
  have j:wrap .i64 ((k:Int)+1)=((k+1:Nat):Int):=by rw[wrap_i64 _ (by omega)];omega
  have z:wrap .i64 (wrap .i64 ((k:Int)+1) - 1)=(k:Int):=by rw[j,wrap_i64 _ (by omega)];omega
  rw[z,j,Aa h,ct,rY h,bW];unfold pm
  rw[a1,cf,show decide ((k:Int)≥(l.length:Int))=false by simp;omega,cf]
 ·refine⟨0,k,by omega,by omega,u,fun K=>?_⟩
  rw[Va];unfold Wk
  rw[show decide ((k:Int)≥(l.length:Int))=true by simp;omega,ct]
theorem sA {N m:Nat} {l:List Int} {t o:Bool} (u:l.length≤9223372036854775807) (n:Int) (z:1≤n) (C:n≤4611686018427387904) (F:m≤1000):∀ (r j fuel:Nat) (k:Nat) (A:List Int),j+r=m→r<fuel→k≤l.length→A.length=j →
  ∃ (B:List Int) (D:Nat),B.length=r∧(∀ x ∈ B,0≤x∧x<n)∧D≤l.length∧∀ K:Nat→Int→LA→O R,E1 N K (m:Int) n (Ap l) l.length t o fuel j (j:Int) (k:Int) (Ap A)=K m (D:Int) (Ap (A++B))
 | 0,j,fuel+1,k,A,G,_,e,hA=>by
  refine⟨[],k,rfl,by simp,e,fun K=>?_⟩
  rw[E1];unfold Me
  have:j=m:=by omega
  subst this
  rw[H2 (Az3 _),cf,A1y]
 | r+1,j,fuel+1,k,A,G,hf,e,hA=>by
  obtain⟨v,I,v0,v1,q,L⟩:=nx (R:=R) (N:=N) (t:=t) (o:=o) u n z C k e
  obtain⟨B,S,b1,T,U,V⟩:=sA u n z C F r (j+1) fuel I (A++[v]) (by omega) (by omega) q (by simp[hA])
  refine⟨v::B,S,by simp[b1],?_,U,fun K=>?_⟩
  ·intro x s
   rcases Az7.1 s with rfl | s
   ·exact⟨v0,v1⟩
   ·exact T x s
  ·rw[E1];unfold Me
   have X:(ble (j+1) 140737488355328&&ble ((j+1)*8) 140737488355328)=true:=by rw[Ep,Ep];simp;omega
   have Y:take (j*1) (Ap A)++[.int .i64 v]=Ap (A++[v]):=Aag (B:=[v]) hA.symm
   rw[Gh (by omega),ct,L,X,ct,Y,Ez (by omega),V]
   simp
theorem CV {N m:Nat} {l:List Int} {t o:Bool} (hN:1001≤N) (j:l.length≤9223372036854775807) (n:Int) (q:1≤n) (s:n≤4611686018427387904) (u:m≤1000) (k:Nat) (v:k≤l.length) :
  ∃ (B:List Int) (e:Nat),B.length=m∧(∀ x ∈ B,0≤x∧x<n)∧e≤l.length∧∀ K:Nat→Int→LA→O R,Fg N (m:Int) n (Ap l) l.length t o (k:Int) K=K m (e:Int) (Ap B):=by
 obtain⟨B,e,b1,z,A,C⟩:=sA (R:=R) (N:=N) (t:=t) (o:=o) j n q s u m 0 N k [] (by omega) (by omega) v rfl
 refine⟨B,e,b1,z,A,fun K=>?_⟩
 rw[EN];unfold Sk
 simpa[Ap] using C K
theorem ja {N:Nat} {l:List Int} {t o:Bool} (n:l.length≤9223372036854775807) (H:Int) (D:1≤H) (L:H≤1000) (k:Nat) (F:k≤l.length) :
  ∃ (B:List Int) (q:Nat),B.length≤1∧(∀ x ∈ B,0≤x∧x<H)∧q≤l.length∧∀ K:Nat→Int→LA→O R,N8 N H (Ap l) l.length t o (k:Int) K=K B.length (q:Int) (Ap B):=by
 obtain⟨v,s,v0,v1,e,z⟩:=nx (R:=R) (N:=N) (t:=t) (o:=o) n 6 (by omega) (by omega) k F
 by_cases A:v=5
 ·obtain⟨u,G,u0,u1,j,I⟩:=nx (R:=R) (N:=N) (t:=t) (o:=o) n H D (by omega) s e
  refine⟨[u],G,by simp,by intro x C;simp at C;subst C;exact⟨u0,u1⟩,j,fun K=>?_⟩
  rw[Vb];unfold Wl
  rw[z,I,A];rfl
 ·refine⟨[],s,by simp,by simp,e,fun K=>?_⟩
  rw[Vb];unfold Wl
  have:(v==5)=false:=by simpa using A
  rw[z,this];rfl
def Ayv:Lu:=[48,49,50,51,52,53,54,55,56,57,97,98,99,100,101,102]
theorem Rm {N:Nat} {c:UInt8} {i:Nat} (hi:i<16) {K:Lu→O R}:MD N [c] (i:Int) K=K [c,Ayv.getD i 0]:=by
 rw[mA];unfold rN
 have e1:Int.tmod (i:Int) 16=(i:Int):=Int.tmod_eq_of_lt (by omega) (by omega)
 rw[e1,Ez (by omega)]
 have c1:(decide ((0:Int)≤(i:Int))&&(decide ((i:Int)≤((i+1:Nat):Int))&&(decide (((i+1:Nat):Int)≤(16:Int))&&decide ((16:Int)≤(16:Int)))))=true:=by simp;omega
 rw[c1,ct]
 simp only[Az1,A38]
 have:take 1 (drop i ([48,49,50,51,52,53,54,55,56,57,97,98,99,100,101,102]:Lu))=[Ayv.getD i 0]:=by
  rw[Ju (by simpa using hi)]
  simp[Ayv,hi]
 rw[this];rfl
theorem Nd {a:Int} (h:-9223372036854775808≤a∧a≤9223372036854775807):wrap .i64 a=a:=wrap_i64 a h
theorem Ex {lo hi n:Int} (h:lo≤n∧n≤hi):Fe lo hi n=true:=by unfold Fe;simp;omega
structure LineG (i:Nat) (fr tx H:Int) (x:LineD):Prop where
 name:x.name=[108,Ayv.getD i 0]
 fr:x.fr=fr
 tx:x.tl=tx
 re:(Pb x.re&&decide (x.re.num>0))=true
 smin:(Pb x.smin&&decide (x.smin.num≤0))=true
 smax:(Pb x.smax&&decide (x.smax.num≥0))=true
 lim:Fe 0 1048576 x.limit=true
 em:Fe x.limit 1048576 x.emer=true
 aw:x.away.l.length≤1
 awr:∀ y ∈ x.away.l,0≤y∧y<H
theorem xw {f:FracD} (h:1≤f.den∧f.den≤1048576∧-1048576≤f.num∧f.num≤1048576):Pb f=true:=by unfold Pb;rw[Ex (by omega),Ex (by omega)];rfl
theorem Vh {B:List Int}:take (B.length*1) (Ap B)=B.flatMap Sh:=by rw[A0b,Az0 (by rw[Dw];exact Az3 _),Ft]
theorem xx {N:Nat} {l:List Int} {t o:Bool} (j:l.length≤9223372036854775807) {i:Nat} (hi:i<16) (fr tx:Int) {H:Int} (hH:1≤H∧H≤24) (k:Nat) (Y:k≤l.length) :
  ∃ (x:LineD) (V:Nat),LineG i fr tx H x∧V≤l.length∧∀ K:LA→Int→O R,Sm N (i:Int) fr tx H (Ap l) l.length t o (k:Int) K=K x.av (V:Int):=by
 obtain⟨y2,ky2,y20,y21,v,z⟩:=nx (R:=R) (N:=N) (t:=t) (o:=o) j 4 (by omega) (by omega) k Y
 obtain⟨y4,ky4,y40,y41,A,C⟩:=nx (R:=R) (N:=N) (t:=t) (o:=o) j 2 (by omega) (by omega) ky2 v
 obtain⟨y6,ky6,y60,y61,D,F⟩:=nx (R:=R) (N:=N) (t:=t) (o:=o) j 40 (by omega) (by omega) ky4 A
 obtain⟨y8,ky8,y80,y81,G,I⟩:=nx (R:=R) (N:=N) (t:=t) (o:=o) j 20 (by omega) (by omega) ky6 D
 obtain⟨y10,ky10,y100,y101,e,n⟩:=nx (R:=R) (N:=N) (t:=t) (o:=o) j 5 (by omega) (by omega) ky8 G
 by_cases X:y10=4
 ·have e4:(y10==4)=true:=by simpa using X
  obtain⟨y12,ky12,y120,y121,q,L⟩:=nx (R:=R) (N:=N) (t:=t) (o:=o) j 4 (by omega) (by omega) ky10 e
  obtain⟨y14,ky14,y140,y141,s,S⟩:=nx (R:=R) (N:=N) (t:=t) (o:=o) j 2 (by omega) (by omega) ky12 q
  obtain⟨y16,ky16,y160,y161,u,T⟩:=nx (R:=R) (N:=N) (t:=t) (o:=o) j 4 (by omega) (by omega) ky14 s
  obtain⟨B,kB,b1,U,hkB,hB⟩:=ja (R:=R) (N:=N) (t:=t) (o:=o) j H hH.1 (by omega) ky16 u
  refine⟨⟨[108,Ayv.getD i 0],fr,tx,⟨1+y2,1+y4⟩,⟨0 - y12,1+y14⟩,⟨y16,1⟩,4+y6,4+y6+y8,.of B false false⟩,kB,⟨rfl,rfl,rfl,?_,?_,?_,Ex (by simp only;omega),Ex (by simp only;omega),b1,U⟩,hkB,fun K=>?_⟩
  ·rw[xw (by simp only;omega)];simp;omega
  ·rw[xw (by simp only;omega)];simp;omega
  ·rw[xw (by simp only;omega)];simp;omega
  ·rw[Vc];unfold Wm
   rw[Rm hi,z,C,F,I,n,e4,ct,L,S,T,hB,Vh,Nd (a:=1+y2) (by omega),Nd (a:=1+y4) (by omega),Nd (a:=0 - y12) (by omega),Nd (a:=1+y14) (by omega),Nd (a:=4+y6) (by omega),Nd (a:=4+y6+y8) (by omega)]
   rfl
 ·have e4:(y10==4)=false:=by simpa using X
  obtain⟨B,kB,b1,U,hkB,hB⟩:=ja (R:=R) (N:=N) (t:=t) (o:=o) j H hH.1 (by omega) ky10 e
  refine⟨⟨[108,Ayv.getD i 0],fr,tx,⟨1+y2,1+y4⟩,⟨0,1⟩,⟨0,1⟩,4+y6,4+y6+y8,.of B false false⟩,kB,⟨rfl,rfl,rfl,?_,?_,?_,Ex (by simp only;omega),Ex (by simp only;omega),b1,U⟩,hkB,fun K=>?_⟩
  ·rw[xw (by simp only;omega)];simp;omega
  ·rw[xw (by simp only;omega)];simp
  ·rw[xw (by simp only;omega)];simp
  ·rw[Vc];unfold Wm
   rw[Rm hi,z,C,F,I,n,e4,cf,hB,Vh,Nd (a:=1+y2) (by omega),Nd (a:=1+y4) (by omega),Nd (a:=4+y6) (by omega),Nd (a:=4+y6+y8) (by omega)]
   rfl
structure UnitG (i:Nat) (nb H:Int) (u:UnitD):Prop where
 name:u.name=[117,Ayv.getD i 0]
 bus:0≤u.bus∧u.bus<nb
 min:Fe 0 1048576 u.min=true
 max:Fe u.min 1048576 u.max=true
 sl:1≤u.segs.l.length∧u.segs.l.length≤8
 sok:u.segs.l.all r8=true
 sord:b9 u.segs.l=true
 ssum:(b8 0 u.segs.l==wrap .i64 (u.max - u.min))=true
 noLoad:Fe 0 1048576 u.noLoad=true
 rampUp:Fe 0 1048576 u.rampUp=true
 rampDown:Fe 0 1048576 u.rampDown=true
 startRamp:Fe u.min u.max u.startRamp=true
 stopRamp:Fe u.min u.max u.stopRamp=true
 upTime:Fe 0 24 u.upTime=true
 downTime:Fe 0 24 u.downTime=true
 startTime:Fe 0 24 u.startTime=true
 hotCost:Fe 0 1048576 u.hotCost=true
 coldCost:Fe 0 1048576 u.coldCost=true
 hotHours:Fe 0 24 u.hotHours=true
 reserve:Fe 0 1048576 u.reserve=true
 reservePrice:Fe 0 1048576 u.reservePrice=true
 aw:u.away.l.length≤1
 awr:∀ y ∈ u.away.l,0≤y∧y<H
 state:Fe 0 2 u.state=true
 starting:(u.state != 1||u.startTime != 0)=true
 hours:Fe 1 48 u.hours=true
 started:(u.state != 1||decide (u.hours≤u.startTime))=true
 output:cond (u.state==2) (Fe u.min u.max u.output) (Fe 0 0 u.output)=true
theorem xy {s:SegD}:∀ {S:List SegD},b9 S=true→(∀ x ∈ S,x.price≤s.price)→b9 (S++[s])=true
 | [],_,_=>r9 s
 | [a],_,h=>by
  rw[A0u,A1o,MP,r9]
  have:=h a (by simp);simp;omega
 | a::b::r,e,h=>by
  rw[MP] at e
  simp only[A0a] at e
  rw[A0u,A0u,MP,e.1]
  have:=xy (S:=b::r) e.2 (fun x k=>h x (by rcases Az7.1 k with j | j<;>simp[j]))
  simpa using this
theorem xz {s:SegD}:∀ {S:List SegD} {a:Int},b8 a (S++[s])=wrap .i64 (b8 a S+s.width)
 | [],a=>rfl
 | x::r,a=>by rw[A0u,b8,b8];exact xz
theorem Aul (S:List SegD):(S.flatMap SegD.av).length=S.length*2:=by
 induction S with
 | nil=>rfl
 | cons e r j=>rw[A0z,Az2,j,CQ];simp;omega
theorem jb {S:List SegD} {n:Nat} (h:n=S.length):take (n*2) (S.flatMap SegD.av)=S.flatMap SegD.av:=Az0 (by rw[Aul,h];exact Az3 _)
theorem yA {N:Nat} {l:List Int} {t o:Bool} (j:l.length≤9223372036854775807) {i:Nat} {nb H bus mn noLoad:Int} (hb:0≤bus∧bus<nb) (hmn:0≤mn∧mn<8) (hno:0≤noLoad∧noLoad<20) (hH:1≤H∧H≤24):∀ (n fuel:Nat) (p:Int) (k:Nat) (M:Int) (S:List SegD),n<fuel→k≤l.length→S.length+n≤2→1≤S.length+n→(∀ x ∈ S,x.price≤p∧r8 x=true)→b9 S=true→b8 0 S=M - mn→0≤M - mn→M - mn≤15*S.length→-10≤p→p≤20+10*S.length →
  ∃ (u:UnitD) (k':Nat),UnitG i nb H u∧k'≤l.length∧∀ K:LA→Int→O R,Er N K H (Ap l) l.length t o [117,Ayv.getD i 0] bus mn noLoad fuel p (n:Int) (k:Int) M S.length (S.flatMap SegD.av)=K u.av (k':Int)
 | 0,fuel+1,p,k,M,S,_,hk,hS,hS1,hp,ho,hw,hM0,hM1,_,_=>by
  obtain⟨y16,ky16,y160,y161,v,hy16⟩:=nx (R:=R) (N:=N) (t:=t) (o:=o) j 20 (by omega) (by omega) k hk
  obtain⟨y18,ky18,y180,y181,z,hy18⟩:=nx (R:=R) (N:=N) (t:=t) (o:=o) j 20 (by omega) (by omega) ky16 v
  obtain⟨y20,ky20,y200,y201,A,hy20⟩:=nx (R:=R) (N:=N) (t:=t) (o:=o) j (M - mn+1) (by omega) (by omega) ky18 z
  obtain⟨y22,ky22,y220,y221,C,hy22⟩:=nx (R:=R) (N:=N) (t:=t) (o:=o) j (M - mn+1) (by omega) (by omega) ky20 A
  obtain⟨y24,ky24,y240,y241,D,hy24⟩:=nx (R:=R) (N:=N) (t:=t) (o:=o) j 3 (by omega) (by omega) ky22 C
  obtain⟨y26,ky26,y260,y261,F,hy26⟩:=nx (R:=R) (N:=N) (t:=t) (o:=o) j 3 (by omega) (by omega) ky24 D
  obtain⟨y28,ky28,y280,y281,G,hy28⟩:=nx (R:=R) (N:=N) (t:=t) (o:=o) j 2 (by omega) (by omega) ky26 F
  obtain⟨y30,ky30,y300,y301,I,hy30⟩:=nx (R:=R) (N:=N) (t:=t) (o:=o) j 30 (by omega) (by omega) ky28 G
  obtain⟨y32,ky32,y320,y321,L,hy32⟩:=nx (R:=R) (N:=N) (t:=t) (o:=o) j 30 (by omega) (by omega) ky30 I
  obtain⟨y34,ky34,y340,y341,T,hy34⟩:=nx (R:=R) (N:=N) (t:=t) (o:=o) j 4 (by omega) (by omega) ky32 L
  obtain⟨y36,ky36,y360,y361,U,hy36⟩:=nx (R:=R) (N:=N) (t:=t) (o:=o) j 8 (by omega) (by omega) ky34 T
  obtain⟨y38,ky38,y380,y381,V,hy38⟩:=nx (R:=R) (N:=N) (t:=t) (o:=o) j 4 (by omega) (by omega) ky36 U
  obtain⟨B,kB,b1,b2,hkB,hB⟩:=ja (R:=R) (N:=N) (t:=t) (o:=o) j H hH.1 (by omega) ky38 V
  obtain⟨y43,ky43,y430,y431,X,hy43⟩:=nx (R:=R) (N:=N) (t:=t) (o:=o) j (2+y28) (by omega) (by omega) kB hkB
  obtain⟨y46,ky46,y460,y461,q,hy46⟩:=nx (R:=R) (N:=N) (t:=t) (o:=o) j 4 (by omega) (by omega) ky43 X
  have i43:Ae y43 3=true:=xu y430 (by omega)
  obtain⟨x45,hx45,hst⟩:∃ x45:Int,(∀ f:Int→O R,As .i64 (drop (0+((Int.toNat y43)*1)) [(.int .i64 (0:Int)),(.int .i64 (2:Int)),(.int .i64 (1:Int))]) f=f x45)∧(x45=0∨x45=2∨(x45=1∧y28=1)):=by
   have e:[(.int .i64 (0:Int)),(.int .i64 (2:Int)),(.int .i64 (1:Int))]=Ap [0,2,1]:=rfl
   refine⟨([0,2,1]:List Int).getD y43.toNat 0,fun f=>by rw[e,Ar3 (by simp;omega)],?_⟩
   have:y43=0∨y43=1∨y43=2:=by omega
   rcases this with rfl | rfl | rfl
   ·left;rfl
   ·right;left;rfl
   ·right;right;exact⟨rfl,by omega⟩
  have wM:wrap .i64 (wrap .i64 (M - mn)+1)=M - mn+1:=by rw[Nd (a:=M - mn) (by omega),Nd (by omega)]
  have head:∀ K:LA→Int→O R,Er N K H (Ap l) l.length t o [117,Ayv.getD i 0] bus mn noLoad (fuel+1) p ((0:Nat):Int) (k:Int) M S.length (S.flatMap SegD.av) =
    Lh N K (Ap l) l.length t o (ky46:Int) [117,Ayv.getD i 0] bus mn M S.length noLoad y16 y18 y24 y26 y28 y30 y34 y36 y38 B.length x45 (S.flatMap SegD.av) (Ap B) (mn+y20) (mn+y22) (y30+y32) (cond (x45==1) 1 (1+y46)):=fun K=>by
   rw[Er];unfold N9
   rw[show decide (((0:Nat):Int)>0)=false from rfl,cf,wM,hy16,hy18,hy20,hy22,hy24,hy26,hy28,hy30,hy32,hy34,hy36,hy38,hB,Nd (a:=2+y28) (by omega),hy43,i43,ct,hx45,hy46,Nd (a:=mn+y20) (by omega),Nd (a:=mn+y22) (by omega),Nd (a:=y30+y32) (by omega),Nd (a:=1+y46) (by omega)]
   cases x45==1<;>rfl
  have hhr:1≤(cond (x45==1) (1:Int) (1+y46))∧(cond (x45==1) (1:Int) (1+y46))≤4:=by cases x45==1<;>simp<;>omega
  have hst1:x45=1→cond (x45==1) (1:Int) (1+y46)=1:=by intro e;subst e;rfl
  have sall:S.all r8=true:=by rw[A05];exact fun x hx=>(hp x hx).2
  have ssum:(b8 0 S==wrap .i64 (M - mn))=true:=by rw[Nd (a:=M - mn) (by omega),hw];simp
  have starting:(x45 != 1||y28 != 0)=true:=by
   rcases hst with h | h | ⟨h,h'⟩
   ·rw[h];rfl
   ·rw[h];rfl
   ·rw[h,h'];rfl
  have started:(x45 != 1||decide ((cond (x45==1) (1:Int) (1+y46))≤y28))=true:=by
   rcases hst with h | h | ⟨h,h'⟩
   ·rw[h];rfl
   ·rw[h];rfl
   ·rw[h,h'];rfl
  have stR:Fe 0 2 x45=true:=Ex (by omega)
  by_cases s:x45=2
  ·obtain⟨y48,ky48,y480,y481,Y,hy48⟩:=nx (R:=R) (N:=N) (t:=t) (o:=o) j (M - mn+1) (by omega) (by omega) ky46 q
   refine⟨⟨[117,Ayv.getD i 0],bus,mn,M,.of S false false,noLoad,y16,y18,mn+y20,mn+y22,y24,y26,y28,y30,y30+y32,y34,y36,y38,.of B false false,x45,cond (x45==1) 1 (1+y46),mn+y48⟩,ky48,
    ⟨rfl,hb,Ex (by simp only;omega),Ex (by simp only;omega),by simp only[Sl.l];omega,sall,ho,ssum,Ex (by simp only;omega),Ex (by simp only;omega),Ex (by simp only;omega),Ex (by simp only;omega),Ex (by simp only;omega),Ex (by simp only;omega),Ex (by simp only;omega),Ex (by simp only;omega),Ex (by simp only;omega),Ex (by simp only;omega),Ex (by simp only;omega),Ex (by simp only;omega),Ex (by simp only;omega),b1,b2,stR,starting,Ex (by simp only;omega),started,?_⟩,Y,fun K=>?_⟩
   ·have:(x45==2)=true:=by simpa using s
    simp only[this,cond_true];exact Ex (by omega)
   ·rw[head];unfold Lh
    have:(x45==2)=true:=by simpa using s
    rw[this,ct,wM,hy48,Nd (a:=mn+y48) (by omega),jb rfl,Vh]
    rfl
  ·refine⟨⟨[117,Ayv.getD i 0],bus,mn,M,.of S false false,noLoad,y16,y18,mn+y20,mn+y22,y24,y26,y28,y30,y30+y32,y34,y36,y38,.of B false false,x45,cond (x45==1) 1 (1+y46),0⟩,ky46,
    ⟨rfl,hb,Ex (by simp only;omega),Ex (by simp only;omega),by simp only[Sl.l];omega,sall,ho,ssum,Ex (by simp only;omega),Ex (by simp only;omega),Ex (by simp only;omega),Ex (by simp only;omega),Ex (by simp only;omega),Ex (by simp only;omega),Ex (by simp only;omega),Ex (by simp only;omega),Ex (by simp only;omega),Ex (by simp only;omega),Ex (by simp only;omega),Ex (by simp only;omega),Ex (by simp only;omega),b1,b2,stR,starting,Ex (by simp only;omega),started,?_⟩,q,fun K=>?_⟩
   ·have:(x45==2)=false:=by simpa using s
    simp only[this,cond_false];exact Ex (by omega)
   ·rw[head];unfold Lh
    have:(x45==2)=false:=by simpa using s
    rw[this,cf,jb rfl,Vh]
    rfl
 | n+1,fuel+1,p,k,M,S,hf,hk,hS,hS1,hp,ho,hw,hM0,hM1,hp0,hp1=>by
  obtain⟨y12,ky12,y120,y121,hky12,hy12⟩:=nx (R:=R) (N:=N) (t:=t) (o:=o) j 15 (by omega) (by omega) k hk
  obtain⟨y14,ky14,y140,y141,hky14,hy14⟩:=nx (R:=R) (N:=N) (t:=t) (o:=o) j 10 (by omega) (by omega) ky12 hky12
  obtain⟨u,k',g1,g2,g3⟩:=yA (N:=N) (t:=t) (o:=o) (i:=i) (nb:=nb) (H:=H) (bus:=bus) (mn:=mn) (noLoad:=noLoad) j hb hmn hno hH n fuel (p+y14) ky14 (M+(1+y12)) (S++[(⟨1+y12,p⟩:SegD)]) (by omega) hky14 (by simp;omega) (by simp;omega) (by
   intro x hx
   rcases A0f.1 hx with h | h
   ·have:=hp x h;exact⟨by omega,this.2⟩
   ·simp at h;subst h
    refine⟨by simp only;omega,?_⟩
    unfold r8;rw[Ex (by simp only;omega),Ex (by simp only;omega)];rfl) (xy ho fun x hx=>(hp x hx).1) (by rw[xz,hw,Nd (by simp only;omega)];simp only;omega) (by omega) (by simp;omega) (by omega) (by simp;omega)
  refine⟨u,k',g1,g2,fun K=>?_⟩
  rw[Er];unfold N9
  have c3:(ble (S.length+1) 140737488355328&&ble ((S.length+1)*16) 140737488355328)=true:=by rw[Ep,Ep];simp;omega
  have c5:take (S.length*2) (S.flatMap SegD.av)++[.int .i64 (1+y12),.int .i64 p]=(S++[(⟨1+y12,p⟩:SegD)]).flatMap SegD.av:=by rw[jb rfl];simp[SegD.av]
  have wn:wrap .i64 (((n+1:Nat):Int) - 1)=(n:Int):=rZ (by omega)
  rw[show decide (((n+1:Nat):Int)>0)=true from decide_eq_true (by omega),ct,hy12,c3,ct,hy14,Nd (a:=1+y12) (by omega),Nd (a:=p+y14) (by omega),wn,Nd (a:=M+(1+y12)) (by omega),c5]
  have:=g3 K
  rw[Az2] at this
  exact this
theorem Aol {N:Nat} {l:List Int} {t o:Bool} (hN:8≤N) (j:l.length≤9223372036854775807) {i:Nat} (hi:i<16) {nb H:Int} (I:1≤nb∧nb≤1000) (hH:1≤H∧H≤24) (k:Nat) (L:k≤l.length) :
  ∃ (u:UnitD) (B:Nat),UnitG i nb H u∧B≤l.length∧∀ K:LA→Int→O R,Sn N (i:Int) nb H (Ap l) l.length t o (k:Int) K=K u.av (B:Int):=by
 obtain⟨y2,ky2,y20,y21,q,C⟩:=nx (R:=R) (N:=N) (t:=t) (o:=o) j nb (by omega) (by omega) k L
 obtain⟨y4,ky4,y40,y41,s,D⟩:=nx (R:=R) (N:=N) (t:=t) (o:=o) j 8 (by omega) (by omega) ky2 q
 obtain⟨y6,ky6,y60,y61,v,F⟩:=nx (R:=R) (N:=N) (t:=t) (o:=o) j 20 (by omega) (by omega) ky4 s
 obtain⟨y8,ky8,y80,y81,z,G⟩:=nx (R:=R) (N:=N) (t:=t) (o:=o) j 20 (by omega) (by omega) ky6 v
 obtain⟨y10,ky10,y100,y101,e,A⟩:=nx (R:=R) (N:=N) (t:=t) (o:=o) j 2 (by omega) (by omega) ky8 z
 obtain⟨n,hn⟩:∃ n:Nat,1+y10=(n:Int):=⟨(1+y10).toNat,by omega⟩
 obtain⟨u,B,S,T,U⟩:=yA (R:=R) (N:=N) (l:=l) (t:=t) (o:=o) j (i:=i) (nb:=nb) (H:=H) (bus:=y2) (mn:=y4) (noLoad:=y6) ⟨y20,y21⟩ ⟨y40,y41⟩ ⟨y60,y61⟩ hH n N (y8 - 2) ky10 y4 [] (by omega) e (by simp;omega) (by simp;omega) (by simp) Aex (by simp[b8]) (by omega) (by simp) (by omega) (by simp;omega)
 refine⟨u,B,S,T,fun K=>?_⟩
 rw[IK];unfold Wn
 rw[Rm hi,C,D,F,G,A,Nd (a:=y8 - 2) (by omega),Nd (a:=1+y10) (by omega),hn]
 simpa using U K
structure OutG (i:Nat) (nl nu:Nat) (x:OutD):Prop where
 name:x.name=[111,Ayv.getD i 0]
 ll:x.lines.l.length=1∨x.lines.l.length=2
 lr:∀ y ∈ x.lines.l,0≤y∧y<(nl:Int)
 la:asc x.lines.l=true
 ml:x.moves.l.length≤nu
 mc:((x.moves.l.length:Int)==0||x.corr)=true
 mr:∀ m ∈ x.moves.l,0≤m.unit∧m.unit<(nu:Int)
 ma:asc (x.moves.l.map (·.unit))=true
 mi:x.moves.l.all Aje=true
theorem Ae4 {s:Int}:∀ {S:List Int},asc S=true→(∀ x ∈ S,x<s)→asc (S++[s])=true
 | [],_,_=>WL s
 | [a],_,h=>by
  rw[A0u,A1o,IW,WL]
  have:=h a (by simp);simp;omega
 | a::b::r,e,h=>by
  rw[IW] at e
  simp only[A0a] at e
  rw[A0u,A0u,IW,e.1]
  have:=Ae4 (S:=b::r) e.2 (fun x k=>h x (by rcases Az7.1 k with j | j<;>simp[j]))
  simpa using this
theorem Ar7 (S:List MoveD):(S.flatMap MoveD.av).length=S.length*3:=by
 induction S with
 | nil=>rfl
 | cons e r j=>rw[A0z,Az2,j,Od];simp;omega
theorem jc {N:Nat} {l:List Int} {t o:Bool} (z:l.length≤9223372036854775807) {i nl nu:Nat} (A:nu≤16) {B:List Int} (hB1:B.length=1∨B.length=2) (hB2:∀ y ∈ B,0≤y∧y<(nl:Int)) (hB3:asc B=true):∀ (m j fuel:Nat) (k:Nat) (S:List MoveD),j+m=nu→m<fuel→k≤l.length→S.length≤j→(∀ x ∈ S,0≤x.unit∧x.unit<(j:Int))→asc (S.map (·.unit))=true→S.all Aje=true →
  ∃ (x:OutD) (u:Nat),OutG i nl nu x∧u≤l.length∧∀ K:LA→Int→O R,Ed N K (nu:Int) (Ap l) l.length t o [111,Ayv.getD i 0] B.length (Ap B) fuel (j:Int) (k:Int) S.length (S.flatMap MoveD.av)=K x.av (u:Int)
 | 0,j,fuel+1,k,S,X,_,G,hS,hr,F,hi=>by
  have I:j=nu:=by omega
  subst I
  refine⟨⟨[111,Ayv.getD i 0],.of B false false,true,.of S false false⟩,k,⟨rfl,hB1,hB2,hB3,hS,by simp,hr,F,hi⟩,G,fun K=>?_⟩
  rw[Ed];unfold Gt
  rw[H2 (Az3 _),cf,Vh,Az0 (by rw[Ar7];exact Az3 _)]
  rfl
 | m+1,j,fuel+1,k,S,X,hf,G,hS,hr,F,hi=>by
  obtain⟨y10,ky10,y100,y101,e,n⟩:=nx (R:=R) (N:=N) (t:=t) (o:=o) z 2 (by omega) (by omega) k G
  by_cases V:y10=1
  ·obtain⟨y12,ky12,y120,y121,q,C⟩:=nx (R:=R) (N:=N) (t:=t) (o:=o) z 8 (by omega) (by omega) ky10 e
   obtain⟨y14,ky14,y140,y141,s,D⟩:=nx (R:=R) (N:=N) (t:=t) (o:=o) z 8 (by omega) (by omega) ky12 q
   obtain⟨x,u,L,T,U⟩:=jc (N:=N) (t:=t) (o:=o) (i:=i) (nl:=nl) (nu:=nu) z A hB1 hB2 hB3 m (j+1) fuel ky14 (S++[(⟨j,y12,y14⟩:MoveD)]) (by omega) (by omega) s (by simp;omega) (by
    intro x v
    rcases A0f.1 v with h | h
    ·have:=hr x h;omega
    ·simp at h;subst h;simp only;omega) (by
    rw[A15];exact Ae4 F (by
     intro x v
     simp only[A04] at v
     obtain⟨y,Y,rfl⟩:=v
     exact(hr y Y).2)) (by
    rw[A29,hi]
    simp only[A1d,A3z,A19,A1n]
    unfold Aje;rw[Ex (by simp only;omega),Ex (by simp only;omega)];rfl)
   refine⟨x,u,L,T,fun K=>?_⟩
   rw[Ed];unfold Gt
   have e1:(y10==1)=true:=by simpa using V
   have c3:(ble (S.length+1) 140737488355328&&ble ((S.length+1)*24) 140737488355328)=true:=by rw[Ep,Ep];simp;omega
   have c5:take (S.length*3) (S.flatMap MoveD.av)++[.int .i64 (j:Int),.int .i64 y12,.int .i64 y14]=(S++[(⟨j,y12,y14⟩:MoveD)]).flatMap MoveD.av:=by
    rw[Az0 (by rw[Ar7];exact Az3 _)];simp[MoveD.av]
   rw[Gh (by omega),ct,n,e1,ct,C,D,c3,ct,c5,Ez (by omega)]
   have:=U K
   rw[Az2] at this
   exact this
  ·obtain⟨x,u,L,T,U⟩:=jc (N:=N) (t:=t) (o:=o) (i:=i) (nl:=nl) (nu:=nu) z A hB1 hB2 hB3 m (j+1) fuel ky10 S (by omega) (by omega) e (by omega) (by intro x v;have:=hr x v;omega) F hi
   refine⟨x,u,L,T,fun K=>?_⟩
   rw[Ed];unfold Gt
   have e1:(y10==1)=false:=by simpa using V
   rw[Gh (by omega),ct,n,e1,cf,Ez (by omega),U]
theorem yB {N:Nat} {l:List Int} {t o:Bool} (hN:64≤N) (s:l.length≤9223372036854775807) {i nl nu:Nat} (q:nu≤16) {B:List Int} (hB1:B.length=1∨B.length=2) (hB2:∀ y ∈ B,0≤y∧y<(nl:Int)) (hB3:asc B=true) (k:Nat) (v:k≤l.length) :
  ∃ (x:OutD) (n:Nat),OutG i nl nu x∧n≤l.length∧∀ K:LA→Int→O R,Ee N K (nu:Int) (Ap l) l.length t o [111,Ayv.getD i 0] (k:Int) B.length (Ap B)=K x.av (n:Int):=by
 obtain⟨y8,ky8,y80,y81,e,j⟩:=nx (R:=R) (N:=N) (t:=t) (o:=o) s 2 (by omega) (by omega) k v
 by_cases u:y8=1
 ·obtain⟨x,n,z,A,C⟩:=jc (R:=R) (N:=N) (t:=t) (o:=o) (i:=i) (nl:=nl) (nu:=nu) s q hB1 hB2 hB3 nu 0 N ky8 [] (by omega) (by omega) e (by simp) (by simp) pn rfl
  refine⟨x,n,z,A,fun K=>?_⟩
  unfold Ee Kc
  have e1:(y8==1)=true:=by simpa using u
  rw[j,e1,ct]
  simpa using C K
 ·refine⟨⟨[111,Ayv.getD i 0],.of B false false,false,.of [] false false⟩,ky8,⟨rfl,hB1,hB2,hB3,by simp[Sl.l],by simp[Sl.l],by simp[Sl.l],pn,rfl⟩,e,fun K=>?_⟩
  unfold Ee Kc
  have e1:(y8==1)=false:=by simpa using u
  rw[j,e1,cf,Vh]
  rfl
theorem Ae5 {N:Nat} {l:List Int} {t o:Bool} (hN:64≤N) (u:l.length≤9223372036854775807) {i nl nu:Nat} (hi:i<16) (V:1≤nl∧nl≤1000) (v:nu≤16) (k:Nat) (X:k≤l.length) :
  ∃ (x:OutD) (e:Nat),OutG i nl nu x∧e≤l.length∧∀ K:LA→Int→O R,My N (i:Int) (nl:Int) (nu:Int) (Ap l) l.length t o (k:Int) K=K x.av (e:Int):=by
 obtain⟨y2,ky2,y20,y21,z,q⟩:=nx (R:=R) (N:=N) (t:=t) (o:=o) u (nl:Int) (by omega) (by omega) k X
 obtain⟨y4,ky4,y40,y41,j,s⟩:=nx (R:=R) (N:=N) (t:=t) (o:=o) u (nl:Int) (by omega) (by omega) ky2 z
 have one:∀ I,I≤l.length→∃ (x:OutD) (e:Nat),OutG i nl nu x∧e≤l.length∧∀ K:LA→Int→O R,Ee N K (nu:Int) (Ap l) l.length t o [111,Ayv.getD i 0] (I:Int) 1 [.int .i64 y2]=K x.av (e:Int):=fun I L =>
  yB (i:=i) (nl:=nl) hN u v (B:=[y2]) (.inl rfl) (by intro y A;simp at A;subst A;exact⟨y20,y21⟩) (WL _) I L
 by_cases S:y4>y2
 ·obtain⟨y6,ky6,y60,y61,n,C⟩:=nx (R:=R) (N:=N) (t:=t) (o:=o) u 3 (by omega) (by omega) ky4 j
  by_cases U:y6=2
  ·obtain⟨x,e,D,F,G⟩:=yB (R:=R) (N:=N) (t:=t) (o:=o) (i:=i) (nl:=nl) (nu:=nu) hN u v (B:=[y2,y4]) (.inr rfl) (by intro y A;simp at A;rcases A with rfl | rfl<;>omega) (by rw[IW,WL];simp;omega) ky6 n
   refine⟨x,e,D,F,fun K=>?_⟩
   rw[Kd];unfold Hn
   have e1:decide (y4>y2)=true:=by simpa using S
   have T:(y6==2)=true:=by simpa using U
   rw[Rm hi,q,s,e1,C,T]
   simpa[Ap] using G K
  ·obtain⟨x,e,D,F,G⟩:=one ky6 n
   refine⟨x,e,D,F,fun K=>?_⟩
   rw[Kd];unfold Hn
   have e1:decide (y4>y2)=true:=by simpa using S
   have T:(y6==2)=false:=by simpa using U
   rw[Rm hi,q,s,e1,C,T]
   exact G K
 ·obtain⟨x,e,D,F,G⟩:=one ky4 j
  refine⟨x,e,D,F,fun K=>?_⟩
  rw[Kd];unfold Hn
  have e1:decide (y4>y2)=false:=by simpa using S
  rw[Rm hi,q,s,e1]
  exact G K
def sB (f:Bool) (H:Nat) (res:List Int) (bs:List BusD) (ls:List LineD) (us:List UnitD) (ss:List StoreD) (ts:List TieD) (os:List OutD):CaseD :=
 ⟨(H:Int),.of res false f,.of bs false f,.of ls false f,.of us false f,.of ss false f,.of ts false f,.of os false f⟩
structure BusG (i H:Nat) (b:BusD):Prop where
 name:b.name=[98,Ayv.getD i 0]
 dl:b.demand.l.length=H
 dr:∀ x ∈ b.demand.l,0≤x∧x<14
 shed:0≤b.shed∧b.shed<300
structure StoreG (nb:Nat) (x:StoreD):Prop where
 name:x.name=[115,48]
 bus:0≤x.bus∧x.bus<(nb:Int)
 cap:0≤x.capacity∧x.capacity<20
 ini:0≤x.initial∧x.initial≤x.capacity
 fin:0≤x.final∧x.final≤x.capacity
 ch:0≤x.charge∧x.charge<8
 dis:0≤x.discharge∧x.discharge<8
 eff:1≤x.eff.num∧x.eff.num≤4∧x.eff.den=4
structure TieG (nb H:Nat) (x:TieD):Prop where
 name:x.name=[116,48]
 bus:0≤x.bus∧x.bus<(nb:Int)
 il:x.imp.l.length=H
 ir:∀ y ∈ x.imp.l,0≤y∧y<12
 el:x.exp.l.length=H
 er:∀ y ∈ x.exp.l,0≤y∧y<12
 pl:x.price.l.length=H
 pr:∀ y ∈ x.price.l,0≤y∧y<40
structure LineH (nb:Nat) (i:Nat) (H:Int) (x:LineD):Prop where
 g:LineG i x.fr x.tl H x
 fr:0≤x.fr∧x.fr<(nb:Int)
 tx:0≤x.tl∧x.tl<(nb:Int)
 ne:x.fr≠x.tl
structure BaseG (H:Nat) (res:List Int) (bs:List BusD) (ls:List LineD) (us:List UnitD) (ss:List StoreD) (ts:List TieD):Prop where
 h:1≤H∧H≤3
 rl:res.length=H
 rr:∀ x ∈ res,0≤x∧x<5
 bl:1≤bs.length∧bs.length≤4
 bg:∀ i (h:i<bs.length),BusG i H bs[i]
 ll:ls.length≤7
 lg:∀ i (h:i<ls.length),LineH bs.length i H ls[i]
 ul:1≤us.length∧us.length≤3
 ug:∀ i (h:i<us.length),UnitG i bs.length H us[i]
 sl:ss.length≤1
 sg:∀ x ∈ ss,StoreG bs.length x
 tl:ts.length≤1
 tg:∀ x ∈ ts,TieG bs.length H x
structure OutsG (nl nu:Nat) (os:List OutD):Prop where
 l:os.length≤3
 g:∀ i (h:i<os.length),OutG i nl nu os[i]
theorem yC {N:Nat} (hN:4096≤N) {f:Bool} {H:Nat} {j:List Int} {bs:List BusD} {ls:List LineD} {us:List UnitD} {ss:List StoreD} {ts:List TieD} {os:List OutD} (b:BaseG H j bs ls us ss ts) (g:OutsG ls.length us.length os):Small (sB f H j bs ls us ss ts os) N:=by
 have h:=b.h;have rl:=b.rl;have bl:=b.bl;have ll:=b.ll;have ul:=b.ul;have sl:=b.sl;have tl:=b.tl;have ol:=g.l
 have fit:∀ n:Nat,n≤100→Q4 n N:=fun n hn=>⟨by omega,by omega⟩
 refine⟨by omega,fit _ (by simp only[sB,Sl.l];omega),fit _ (by simp only[sB,Sl.l];omega),fit _ (by simp only[sB,Sl.l];omega),fit _ (by simp only[sB,Sl.l];omega),fit _ (by simp only[sB,Sl.l];omega),fit _ (by simp only[sB,Sl.l];omega),fit _ (by simp only[sB,Sl.l];omega),
  fun x e=>?_,fun x e=>?_,fun x e=>?_,fun x e=>?_,fun x e=>?_,fun x e=>?_,fun x e=>?_,fun x e=>?_,fun x e=>?_,fun x e=>?_,by simp only[sB,Sl.l];omega⟩
 all_goals simp only[sB,Sl.l] at e
 ·obtain⟨i,hi,rfl⟩:=A1p e;have:=(b.bg i hi).dl;exact fit _ (by omega)
 ·obtain⟨i,hi,rfl⟩:=A1p e;have:=(b.lg i hi).g.aw;exact fit _ (by omega)
 ·obtain⟨i,hi,rfl⟩:=A1p e;have:=(b.ug i hi).sl;exact fit _ (by omega)
 ·obtain⟨i,hi,rfl⟩:=A1p e;have:=(b.ug i hi).aw;exact fit _ (by omega)
 ·have:=(b.tg x e).il;exact fit _ (by omega)
 ·have:=(b.tg x e).el;exact fit _ (by omega)
 ·have:=(b.tg x e).pl;exact fit _ (by omega)
 ·obtain⟨i,hi,rfl⟩:=A1p e;have:=(g.g i hi).ll;exact fit _ (by omega)
 ·obtain⟨i,hi,rfl⟩:=A1p e;have:=(g.g i hi).ml;exact fit _ (by omega)
 ·obtain⟨i,hi,rfl⟩:=A1p e;have:=(g.g i hi).ml;omega
theorem Dm {α:Type} {e:α→LA} {sz:Nat} (j:∀ a,(e a).length=sz) (l:List α):(l.flatMap e).length=l.length*sz:=by
 induction l with
 | nil=>simp
 | cons a r k=>rw[A0z,Az2,k,j,Az5,A0m];omega
theorem Bw {α:Type} {e:α→LA} {sz n:Nat} (j:∀ a,(e a).length=sz) (l:List α) (hn:n=l.length):take (n*sz) (l.flatMap e)=l.flatMap e:=Az0 (by rw[Dm j,hn];exact Az3 _)
theorem Nf {B:List Int} {n:Nat} (h:n=B.length):take (n*1) (Ap B)=B.flatMap Sh:=by rw[h];exact Vh
theorem TB {α:Type} {P:Nat→α→Prop} {l:List α} {x:α} (h:∀ i (h:i<l.length),P i l[i]) (j:P l.length x):∀ i (h:i<(l++[x]).length),P i (l++[x])[i]:=by
 intro i hi
 by_cases e:i<l.length
 ·rw[A5c e];exact h i e
 ·have:i=l.length:=by simp at hi;omega
  subst this
  simpa using j
theorem Ajq {p:Hz} (h:(Hg p==0)=true):p=none:=by
 rcases p with _ | ⟨x,e,j⟩
 ·rfl
 ·simp[Hg] at h;exact absurd h j
theorem Aar {N:Nat} {l:List Int} {o:Bool} (hN:4096≤N) (v:l.length≤9223372036854775807) {H:Nat} {e:List Int} {bs:List BusD} {ls:List LineD} {us:List UnitD} {ss:List StoreD} {ts:List TieD} (b:BaseG H e bs ls us ss ts):∀ (n fuel k:Nat) (os:List OutD),n<fuel→k≤l.length→os.length+n≤3→OutsG ls.length us.length os→(os=[]∨Yt (sB true H e bs ls us ss ts os)=none) →
  ∃ j,OutsG ls.length us.length j∧(j=[]∨Yt (sB true H e bs ls us ss ts j)=none)∧∀ K:LA→O R,Gz N K (Ap l) l.length o (H:Int) e.length bs.length ls.length us.length ss.length ts.length (Ap e) (bs.flatMap BusD.av) (ls.flatMap LineD.av) (us.flatMap UnitD.av) (ss.flatMap StoreD.av) (ts.flatMap TieD.av) fuel (n:Int) (k:Int) os.length (os.flatMap OutD.av)=K (sB false H e bs ls us ss ts j).av
 | 0,fuel+1,k,os,_,z,_,g,s=>by
  refine⟨os,g,s,fun K=>?_⟩
  rw[Gz];unfold X3
  rw[show decide (((0:Nat):Int)>0)=false from rfl,Nf rfl,Bw IX _ rfl,Bw Gj _ rfl,Bw Oc _ rfl,Bw M9 _ rfl,Bw Xz _ rfl,Bw Li _ rfl]
  rfl
 | n+1,fuel+1,k,os,S,z,hn,g,s=>by
  by_cases A:ls.length=0
  ·refine⟨os,g,s,fun K=>?_⟩
   rw[Gz];unfold X3
   rw[show decide ((ls.length:Int)>0)=false from decide_eq_false (by omega),show decide (((n+1:Nat):Int)>0)=true from decide_eq_true (by omega),Nf rfl,Bw IX _ rfl,Bw Gj _ rfl,Bw Oc _ rfl,Bw M9 _ rfl,Bw Xz _ rfl,Bw Li _ rfl]
   rfl
  ·have B:=b.ul;have C:=b.ll
   obtain⟨x,u,gx,q,D⟩:=Ae5 (R:=R) (N:=N) (t:=false) (o:=o) (by omega) v (i:=os.length) (nl:=ls.length) (nu:=us.length) (by omega) (by omega) (by omega) k z
   have g':OutsG ls.length us.length (os++[x]):=⟨by simp;omega,TB g.g gx⟩
   have sm:=yC (f:=true) hN b g'
   have wn:wrap .i64 (((n+1:Nat):Int) - 1)=(n:Int):=rZ (by omega)
   have step:∀ K:LA→O R,Gz N K (Ap l) l.length o (H:Int) e.length bs.length ls.length us.length ss.length ts.length (Ap e) (bs.flatMap BusD.av) (ls.flatMap LineD.av) (us.flatMap UnitD.av) (ss.flatMap StoreD.av) (ts.flatMap TieD.av) (fuel+1) ((n+1:Nat):Int) (k:Int) os.length (os.flatMap OutD.av) =
     cond (Hg (Yt (sB true H e bs ls us ss ts (os++[x])))==0)
      (Gz N K (Ap l) l.length o (H:Int) e.length bs.length ls.length us.length ss.length ts.length (Ap e) (bs.flatMap BusD.av) (ls.flatMap LineD.av) (us.flatMap UnitD.av) (ss.flatMap StoreD.av) (ts.flatMap TieD.av) fuel (n:Int) (u:Int) (os++[x]).length ((os++[x]).flatMap OutD.av))
      (Gz N K (Ap l) l.length o (H:Int) e.length bs.length ls.length us.length ss.length ts.length (Ap e) (bs.flatMap BusD.av) (ls.flatMap LineD.av) (us.flatMap UnitD.av) (ss.flatMap StoreD.av) (ts.flatMap TieD.av) fuel (n:Int) (u:Int) os.length (os.flatMap OutD.av)):=fun K=>by
    rw[Gz];unfold X3 MX
    have c1:(ble (0+os.length) 140737488355328&&ble ((0+os.length)*72) 140737488355328)=true:=by rw[Ep,Ep];simp;omega
    have F:(ble ((0+os.length)+1) 140737488355328&&ble (((0+os.length)+1)*72) 140737488355328)=true:=by rw[Ep,Ep];simp;omega
    have G:take ((0+os.length)*4) (take (os.length*4) (os.flatMap OutD.av))++take 4 (setCells [(.str ([]:Lu)),.nsl,(.bool false),.nsl] 0 (take 4 x.av))=(os++[x]).flatMap OutD.av:=by
     rw[A0g,Bw Li _ rfl,Bw Li _ rfl]
     simp only[A1h,A0z,List.flatMap_nil,A1y]
     rfl
    have I:take (((0+os.length)+1)*4) ((os++[x]).flatMap OutD.av)=(os++[x]).flatMap OutD.av:=Bw Li _ (by simp)
    have L:(0+os.length)+1=(os++[x]).length:=by simp
    rw[show decide ((ls.length:Int)>0)=true from decide_eq_true (by omega),show decide (((n+1:Nat):Int)>0)=true from decide_eq_true (by omega)]
    simp only[beq_self_eq_true,cond_true]
    rw[D,show((beq 0 0)&&((beq (List.length x.av) 4)&&(beq 4 4)))=true from rfl,ct,c1,ct,show ble 4 (List.length x.av)=true from rfl,ct,show((beq (List.length (take 4 x.av)) 4)&&(ble 4 4))=true from rfl,ct,F,ct,G,I,L,Nf rfl,Bw IX _ rfl,Bw Gj _ rfl,Bw Oc _ rfl,Bw M9 _ rfl,Bw Xz _ rfl]
    refine A12 (TA (R:=R) (N:=N) (c:=sB true H e bs ls us ss ts (os++[x])) (o:=true) sm hN) ?_
    rw[Awo,show((beq 3 3)&&((ble 3 3)&&(!false)))=true from rfl,ct,wn]
   cases hq:Hg (Yt (sB true H e bs ls us ss ts (os++[x])))==0 with
   | true =>
    obtain⟨j,a1,a2,a3⟩:=Aar hN v b n fuel u (os++[x]) (by omega) q (by simp;omega) g' (.inr (Ajq hq))
    exact⟨j,a1,a2,fun K=>by rw[step,hq,ct,a3]⟩
   | false =>
    obtain⟨j,a1,a2,a3⟩:=Aar hN v b n fuel u os (by omega) q (by omega) g s
    exact⟨j,a1,a2,fun K=>by rw[step,hq,cf,a3]⟩
def JC (c:CaseD):Prop:=∃ (H:Nat) (res:List Int) (bs:List BusD) (ls:List LineD) (us:List UnitD) (ss:List StoreD) (ts:List TieD) (os:List OutD),
 BaseG H res bs ls us ss ts∧OutsG ls.length us.length os∧(os=[]∨Yt (sB true H res bs ls us ss ts os)=none)∧c=sB false H res bs ls us ss ts os
theorem Amk {N:Nat} {l:List Int} {o:Bool} (hN:4096≤N) (q:l.length≤9223372036854775807) {H:Nat} {e:List Int} {bs:List BusD} {ls:List LineD} {us:List UnitD} {ss:List StoreD} {ts:List TieD} (b:BaseG H e bs ls us ss ts) (k:Nat) (s:k≤l.length) :
  ∃ c,JC c∧∀ K:LA→O R,MY N K (Ap l) l.length o (H:Int) e.length bs.length ls.length us.length ss.length (Ap e) (bs.flatMap BusD.av) (ls.flatMap LineD.av) (us.flatMap UnitD.av) (ss.flatMap StoreD.av) (k:Int) ts.length (ts.flatMap TieD.av)=K c.av:=by
 obtain⟨y,u,y0,y1,j,v⟩:=nx (R:=R) (N:=N) (t:=false) (o:=o) q 4 (by omega) (by omega) k s
 obtain⟨n,hn⟩:∃ n:Nat,y=(n:Int):=⟨y.toNat,by omega⟩
 subst hn
 obtain⟨os,a1,a2,a3⟩:=Aar (R:=R) (o:=o) hN q b n N u [] (by omega) j (by simp;omega) ⟨by simp,by simp⟩ (.inl rfl)
 refine⟨_,⟨H,e,bs,ls,us,ss,ts,os,b,a1,a2,rfl⟩,fun K=>?_⟩
 unfold MY SW
 rw[v]
 simpa using a3 K
theorem Aml {N:Nat} {l:List Int} {o:Bool} (hN:4096≤N) (s:l.length≤9223372036854775807) {H:Nat} {u:List Int} {bs:List BusD} {ls:List LineD} {us:List UnitD} {ss:List StoreD} (b:BaseG H u bs ls us ss []) (k:Nat) (hk:k≤l.length) :
  ∃ c,JC c∧∀ K:LA→O R,CS N K (bs.length:Int) (Ap l) l.length o (H:Int) u.length bs.length ls.length us.length (Ap u) (bs.flatMap BusD.av) (ls.flatMap LineD.av) (us.flatMap UnitD.av) (k:Int) ss.length (ss.flatMap StoreD.av)=K c.av:=by
 have hb:=b.bl;have hH:=b.h
 obtain⟨y50,A,y500,y501,n,q⟩:=nx (R:=R) (N:=N) (t:=false) (o:=o) s 3 (by omega) (by omega) k hk
 by_cases Y:y50=2
 ·have D:(y50==2)=true:=by simpa using Y
  obtain⟨y52,F,y520,y521,B,C⟩:=nx (R:=R) (N:=N) (t:=false) (o:=o) s (bs.length:Int) (by omega) (by omega) A n
  obtain⟨B1,k1,j,G,I,hB1⟩:=CV (R:=R) (N:=N) (m:=H) (t:=false) (o:=o) (by omega) s 12 (by omega) (by omega) (by omega) F B
  obtain⟨B2,k2,v,L,S,hB2⟩:=CV (R:=R) (N:=N) (m:=H) (t:=false) (o:=o) (by omega) s 12 (by omega) (by omega) (by omega) k1 I
  obtain⟨B3,k3,z,T,U,hB3⟩:=CV (R:=R) (N:=N) (m:=H) (t:=false) (o:=o) (by omega) s 40 (by omega) (by omega) (by omega) k2 S
  obtain⟨c,V,X⟩:=Amk (R:=R) (o:=o) hN s (ts:=[⟨[116,48],y52,.of B1 false false,.of B2 false false,.of B3 false false⟩]) ⟨b.h,b.rl,b.rr,b.bl,b.bg,b.ll,b.lg,b.ul,b.ug,b.sl,b.sg,by simp,by
   intro x hx;simp at hx;subst hx
   exact⟨rfl,⟨y520,y521⟩,j,G,v,L,z,T⟩⟩ k3 U
  refine⟨c,V,fun K=>?_⟩
  unfold CS EZ
  rw[q,D,ct,C,hB1,hB2,hB3,Nf j.symm,Nf v.symm,Nf z.symm,←X K,←j]
  simp only[j]
  have e:List.flatMap TieD.av [⟨[116,48],y52,.of B1 false false,.of B2 false false,.of B3 false false⟩]=[(.str ([116,48]:Lu)),(.int .i64 y52),(.imm (B1.flatMap Sh) H 1 false false),(.imm (B2.flatMap Sh) H 1 false false),(.imm (B3.flatMap Sh) H 1 false false)]:=by
   simp[TieD.av,Sl.av,j,v,z]
  rw[e];rfl
 ·have D:(y50==2)=false:=by simpa using Y
  obtain⟨c,V,X⟩:=Amk (R:=R) (o:=o) hN s b A n
  refine⟨c,V,fun K=>?_⟩
  unfold CS EZ
  rw[q,D,cf,←X K];rfl
theorem Amm {N:Nat} {l:List Int} {o:Bool} (hN:4096≤N) (e:l.length≤9223372036854775807) {H:Nat} {j:List Int} {bs:List BusD} {ls:List LineD} (h:1≤H∧H≤3) (rl:j.length=H) (rr:∀ x ∈ j,0≤x∧x<5) (bl:1≤bs.length∧bs.length≤4) (bg:∀ i (h:i<bs.length),BusG i H bs[i]) (ll:ls.length≤7) (lg:∀ i (h:i<ls.length),LineH bs.length i H ls[i]) :
  ∀ (n fuel k:Nat) (us:List UnitD),n<fuel→k≤l.length→us.length+n≤3→1≤us.length+n→(∀ i (h:i<us.length),UnitG i bs.length H us[i]) →
  ∃ c,JC c∧∀ K:LA→O R,Nb N K (bs.length:Int) (Ap l) l.length o (H:Int) j.length bs.length (Ap j) (bs.flatMap BusD.av) fuel (n:Int) (k:Int) ls.length us.length (ls.flatMap LineD.av) (us.flatMap UnitD.av)=K c.av
 | 0,fuel+1,k,us,_,hk,hn,hn1,ug=>by
  obtain⟨y34,v,y340,y341,q,s⟩:=nx (R:=R) (N:=N) (t:=false) (o:=o) e 3 (by omega) (by omega) k hk
  by_cases h2:y34=2
  ·have e2:(y34==2)=true:=by simpa using h2
   obtain⟨y36,k36,y360,y361,z,A⟩:=nx (R:=R) (N:=N) (t:=false) (o:=o) e (bs.length:Int) (by omega) (by omega) v q
   obtain⟨y38,k38,y380,y381,B,C⟩:=nx (R:=R) (N:=N) (t:=false) (o:=o) e 20 (by omega) (by omega) k36 z
   obtain⟨y40,k40,y400,y401,D,F⟩:=nx (R:=R) (N:=N) (t:=false) (o:=o) e 8 (by omega) (by omega) k38 B
   obtain⟨y42,k42,y420,y421,G,I⟩:=nx (R:=R) (N:=N) (t:=false) (o:=o) e 8 (by omega) (by omega) k40 D
   obtain⟨y44,k44,y440,y441,L,S⟩:=nx (R:=R) (N:=N) (t:=false) (o:=o) e 4 (by omega) (by omega) k42 G
   obtain⟨y46,k46,y460,y461,T,U⟩:=nx (R:=R) (N:=N) (t:=false) (o:=o) e (y38+1) (by omega) (by omega) k44 L
   obtain⟨y48,k48,y480,y481,V,X⟩:=nx (R:=R) (N:=N) (t:=false) (o:=o) e (y38+1) (by omega) (by omega) k46 T
   obtain⟨c,Y,g2⟩:=Aml (R:=R) (o:=o) hN e (us:=us) (ss:=[⟨[115,48],y36,y38,y46,y48,y40,y42,⟨1+y44,4⟩⟩]) ⟨h,rl,rr,bl,bg,ll,lg,⟨by omega,by omega⟩,ug,by simp,by
    intro x hx;simp at hx;subst hx
    exact⟨rfl,⟨y360,y361⟩,⟨y380,y381⟩,⟨y460,by simp only;omega⟩,⟨y480,by simp only;omega⟩,⟨y400,y401⟩,⟨y420,y421⟩,by simp only;omega,by simp only;omega,rfl⟩,by simp,by simp⟩ k48 V
   refine⟨c,Y,fun K=>?_⟩
   rw[Nb];unfold X4
   rw[show decide (((0:Nat):Int)>0)=false from rfl,cf,s,e2,ct,A,C,F,I,S,Nd (a:=y38+1) (by omega),U,X,Nd (a:=1+y44) (by omega),←g2 K]
   rfl
  ·have e2:(y34==2)=false:=by simpa using h2
   obtain⟨c,Y,g2⟩:=Aml (R:=R) (o:=o) hN e (us:=us) (ss:=[]) ⟨h,rl,rr,bl,bg,ll,lg,⟨by omega,by omega⟩,ug,by simp,by simp,by simp,by simp⟩ v q
   refine⟨c,Y,fun K=>?_⟩
   rw[Nb];unfold X4
   rw[show decide (((0:Nat):Int)>0)=false from rfl,cf,s,e2,cf,←g2 K]
   rfl
 | n+1,fuel+1,k,us,hf,hk,hn,hn1,ug=>by
  obtain⟨u,k1,gu,hk1,hu⟩:=Aol (R:=R) (N:=N) (t:=false) (o:=o) (by omega) e (i:=us.length) (by omega) (nb:=(bs.length:Int)) (H:=(H:Int)) (by omega) (by omega) k hk
  obtain⟨c,Y,g2⟩:=Amm (o:=o) hN e h rl rr bl bg ll lg n fuel k1 (us++[u]) (by omega) hk1 (by simp;omega) (by simp;omega) (TB (P:=fun i u=>UnitG i bs.length H u) ug gu)
  refine⟨c,Y,fun K=>?_⟩
  rw[Nb];unfold X4
  have wn:wrap .i64 (((n+1:Nat):Int) - 1)=(n:Int):=rZ (by omega)
  have c2:(ble (us.length+1) 140737488355328&&ble ((us.length+1)*216) 140737488355328)=true:=by rw[Ep,Ep];simp;omega
  have c3:take (us.length*22) (us.flatMap UnitD.av)++u.av=(us++[u]).flatMap UnitD.av:=by rw[Bw Oc _ rfl];simp
  rw[show decide (((n+1:Nat):Int)>0)=true from decide_eq_true (by omega),ct,hu,show((beq (List.length u.av) 22)&&(ble 22 22))=true from rfl,ct,c2,ct,wn,←g2 K,←c3,Az2]
  rfl
theorem Aum {N:Nat} {l:List Int} {o:Bool} (hN:4096≤N) (z:l.length≤9223372036854775807) {H:Nat} {j:List Int} {bs:List BusD} (h:1≤H∧H≤3) (rl:j.length=H) (rr:∀ x ∈ j,0≤x∧x<5) (bl:1≤bs.length∧bs.length≤4) (bg:∀ i (h:i<bs.length),BusG i H bs[i]) :
  ∀ (n fuel k:Nat) (ls:List LineD),n<fuel→k≤l.length→ls.length+n≤7→(∀ i (h:i<ls.length),LineH bs.length i H ls[i]) →
  ∃ c,JC c∧∀ K:LA→O R,Nc N K (bs.length:Int) (Ap l) l.length o (H:Int) j.length bs.length (Ap j) (bs.flatMap BusD.av) fuel (n:Int) (k:Int) ls.length (ls.flatMap LineD.av)=K c.av:=by
 have fin:∀ (k:Nat) (ls:List LineD),k≤l.length→ls.length≤7→(∀ i (h:i<ls.length),LineH bs.length i H ls[i])→∃ c,JC c∧∀ K:LA→O R,(Ac N (3:Int) (Ap l) l.length false o (k:Int) fun y22 y23=>Nb N K (bs.length:Int) (Ap l) l.length o (H:Int) j.length bs.length (Ap j) (bs.flatMap BusD.av) N (wrap .i64 ((1:Int)+y22)) y23 ls.length 0 (ls.flatMap LineD.av) [])=K c.av:=by
  intro k ls v ll lg
  obtain⟨y,F,y0,y1,q,S⟩:=nx (R:=R) (N:=N) (t:=false) (o:=o) z 3 (by omega) (by omega) k v
  obtain⟨n,hn⟩:∃ n:Nat,1+y=(n:Int):=⟨(1+y).toNat,by omega⟩
  obtain⟨c,s,u⟩:=Amm (R:=R) (o:=o) hN z h rl rr bl bg ll lg n N F [] (by omega) q (by simp;omega) (by simp;omega) (by simp)
  refine⟨c,s,fun K=>?_⟩
  rw[S,Nd (a:=1+y) (by omega),hn]
  simpa using u K
 intro n
 induction n with
 | zero =>
  intro fuel k ls T v hn lg
  obtain⟨c,s,u⟩:=fin k ls v (by omega) lg
  refine⟨c,s,fun K=>?_⟩
  obtain⟨fuel,rfl⟩:∃ f,fuel=f+1:=⟨fuel - 1,by omega⟩
  rw[Nc];unfold X5
  rw[show decide (((0:Nat):Int)>0)=false from rfl,←u K]
  rfl
 | succ n U =>
  intro fuel k ls T v hn lg
  obtain⟨fuel,rfl⟩:∃ f,fuel=f+1:=⟨fuel - 1,by omega⟩
  by_cases V:bs.length=1
  ·obtain⟨c,s,u⟩:=fin k ls v (by omega) lg
   refine⟨c,s,fun K=>?_⟩
   rw[Nc];unfold X5
   rw[show decide (((n+1:Nat):Int)>0)=true from decide_eq_true (by omega),show decide ((bs.length:Int)>1)=false from decide_eq_false (by omega),←u K]
   rfl
  ·obtain⟨y26,G,y260,y261,A,B⟩:=nx (R:=R) (N:=N) (t:=false) (o:=o) z (bs.length:Int) (by omega) (by omega) k v
   obtain⟨y28,I,y280,y281,C,D⟩:=nx (R:=R) (N:=N) (t:=false) (o:=o) z ((bs.length:Int) - 1) (by omega) (by omega) G A
   have tm:∃ tx:Int,Int.tmod (y26+1+y28) (bs.length:Int)=tx∧0≤tx∧tx<(bs.length:Int)∧y26≠tx:=by
    refine⟨_,rfl,Int.tmod_nonneg _ (by omega),A57 _ (by omega),?_⟩
    by_cases L:y26+1+y28<(bs.length:Int)
    ·rw[Int.tmod_eq_of_lt (by omega) L];omega
    ·have:Int.tmod (y26+1+y28) (bs.length:Int)=y26+1+y28 - (bs.length:Int):=by
      have e:y26+1+y28=(y26+1+y28 - (bs.length:Int))+1*(bs.length:Int):=by omega
      rw[Int.tmod_eq_emod_of_nonneg (by omega)]
      conv=>lhs;rw[e]
      rw[Int.add_mul_emod_self_right,Int.emod_eq_of_lt (by omega) (by omega)]
     rw[this];omega
   obtain⟨tx,X,t0,t1,tne⟩:=tm
   obtain⟨x,F,gx,q,Y⟩:=xx (R:=R) (N:=N) (t:=false) (o:=o) z (i:=ls.length) (by omega) y26 tx (H:=(H:Int)) (by omega) I C
   obtain⟨c,s,u⟩:=U fuel F (ls++[x]) (by omega) q (by simp;omega) (TB (P:=fun i x=>LineH bs.length i H x) lg ⟨by rw[gx.fr,gx.tx];exact gx,by rw[gx.fr];exact⟨y260,y261⟩,by rw[gx.tx];exact⟨t0,t1⟩,by rw[gx.fr,gx.tx];exact tne⟩)
   refine⟨c,s,fun K=>?_⟩
   rw[Nc];unfold X5 MW
   have wn:wrap .i64 (((n+1:Nat):Int) - 1)=(n:Int):=rZ (by omega)
   have c2:(ble (ls.length+1) 140737488355328&&ble ((ls.length+1)*120) 140737488355328)=true:=by rw[Ep,Ep];simp;omega
   have c3:take (ls.length*12) (ls.flatMap LineD.av)++x.av=(ls++[x]).flatMap LineD.av:=by rw[Bw Gj _ rfl];simp
   rw[show decide (((n+1:Nat):Int)>0)=true from decide_eq_true (by omega),show decide ((bs.length:Int)>1)=true from decide_eq_true (by omega)]
   simp only[beq_self_eq_true,cond_true]
   rw[B,Nd (a:=(bs.length:Int) - 1) (by omega),D,show((bs.length:Int)==0)=false from beq_eq_false_iff_ne.2 (by omega),cf,Nd (a:=y26+1) (by omega),Nd (a:=y26+1+y28) (by omega),X,Y,show((beq (List.length x.av) 12)&&(ble 12 12))=true from rfl,ct,c2,ct,wn,←u K,←c3,Az2]
   rfl
theorem Amn {N:Nat} {l:List Int} {o:Bool} (hN:4096≤N) (s:l.length≤9223372036854775807) {H:Nat} {e:List Int} {bs:List BusD} (h:1≤H∧H≤3) (rl:e.length=H) (rr:∀ x ∈ e,0≤x∧x<5) (bl:1≤bs.length∧bs.length≤4) (bg:∀ i (h:i<bs.length),BusG i H bs[i]) :
  ∀ (m j fuel k:Nat) (ls:List LineD),j+1+m=bs.length→m<fuel→k≤l.length→ls.length=j→(∀ i (h:i<ls.length),LineH bs.length i H ls[i]) →
  ∃ c,JC c∧∀ K:LA→O R,Vg N K (Ap l) l.length o (H:Int) e.length bs.length (Ap e) (bs.flatMap BusD.av) fuel (bs.length:Int) ((j+1:Nat):Int) (k:Int) ls.length (ls.flatMap LineD.av)=K c.av
 | 0,j,fuel+1,k,ls,F,_,v,u,lg=>by
  obtain⟨y,z,y0,y1,q,A⟩:=nx (R:=R) (N:=N) (t:=false) (o:=o) s 5 (by omega) (by omega) k v
  obtain⟨n,hn⟩:∃ n:Nat,y=(n:Int):=⟨y.toNat,by omega⟩
  subst hn
  obtain⟨c,B,C⟩:=Aum (R:=R) (o:=o) hN s h rl rr bl bg n N z ls (by omega) q (by omega) lg
  refine⟨c,B,fun K=>?_⟩
  rw[Vg];unfold E_
  rw[H2 (by omega),cf,A];exact C K
 | m+1,j,fuel+1,k,ls,F,T,v,u,lg=>by
  obtain⟨y,z,y0,y1,q,A⟩:=nx (R:=R) (N:=N) (t:=false) (o:=o) s ((j+1:Nat):Int) (by omega) (by omega) k v
  obtain⟨x,G,gx,D,I⟩:=xx (R:=R) (N:=N) (t:=false) (o:=o) s (i:=ls.length) (by omega) y ((j+1:Nat):Int) (H:=(H:Int)) (by omega) z q
  obtain⟨c,B,C⟩:=Amn (o:=o) hN s h rl rr bl bg m (j+1) fuel G (ls++[x]) (by omega) (by omega) D (by simp[u]) (TB (P:=fun i x=>LineH bs.length i H x) lg ⟨by rw[gx.fr,gx.tx];exact gx,by rw[gx.fr];omega,by rw[gx.tx];omega,by rw[gx.fr,gx.tx];omega⟩)
  refine⟨c,B,fun K=>?_⟩
  rw[Vg];unfold E_
  have L:(ble (ls.length+1) 140737488355328&&ble ((ls.length+1)*120) 140737488355328)=true:=by rw[Ep,Ep];simp;omega
  have S:take (ls.length*12) (ls.flatMap LineD.av)++x.av=(ls++[x]).flatMap LineD.av:=by rw[Bw Gj _ rfl];simp
  rw[Gh (by omega),ct,A,I,show((beq (List.length x.av) 12)&&(ble 12 12))=true from rfl,ct,L,ct,Ez (by omega),←C K,←S,Az2]
  rfl
theorem Amo {N:Nat} {l:List Int} {o:Bool} (hN:4096≤N) (z:l.length≤9223372036854775807) {H:Nat} {e:List Int} (h:1≤H∧H≤3) (rl:e.length=H) (rr:∀ x ∈ e,0≤x∧x<5) :
  ∀ (n fuel k:Nat) (bs:List BusD),n<fuel→k≤l.length→bs.length+n≤4→1≤bs.length+n→(∀ i (h:i<bs.length),BusG i H bs[i]) →
  ∃ c,JC c∧∀ K:LA→O R,Kw N K (Ap l) l.length o e.length (Ap e) fuel (n:Int) (k:Int) (H:Int) bs.length (bs.flatMap BusD.av)=K c.av
 | 0,fuel+1,k,bs,_,F,hn,G,bg=>by
  obtain⟨c,u,v⟩:=Amn (R:=R) (o:=o) hN z h rl rr ⟨by omega,by omega⟩ bg (bs.length - 1) 0 N k [] (by omega) (by omega) F rfl (by simp)
  refine⟨c,u,fun K=>?_⟩
  rw[Kw];unfold X6
  rw[show decide (((0:Nat):Int)>0)=false from rfl,cf,←v K]
  rfl
 | n+1,fuel+1,k,bs,hf,F,hn,G,bg=>by
  obtain⟨B,V,b1,X,I,hB⟩:=CV (R:=R) (N:=N) (m:=H) (t:=false) (o:=o) (by omega) z 14 (by omega) (by omega) (by omega) k F
  obtain⟨y12,A,y120,y121,j,q⟩:=nx (R:=R) (N:=N) (t:=false) (o:=o) z 2 (by omega) (by omega) V I
  have wn:wrap .i64 (((n+1:Nat):Int) - 1)=(n:Int):=rZ (by omega)
  have T:(ble (bs.length+1) 140737488355328&&ble ((bs.length+1)*48) 140737488355328)=true:=by rw[Ep,Ep];simp;omega
  have Y:∀ s:Int,take (bs.length*3) (bs.flatMap BusD.av)++[(.str [98,Ayv.getD bs.length 0]),(.imm (B.flatMap Sh) H 1 false false),(.int .i64 s)]=(bs++[(⟨[98,Ayv.getD bs.length 0],.of B false false,s⟩:BusD)]).flatMap BusD.av:=fun s=>by
   rw[Bw IX _ rfl];simp[BusD.av,Sl.av,b1]
  have go:∀ (s:Int) (kk:Nat),0≤s→s<300→kk≤l.length→∃ c,JC c∧∀ K:LA→O R,Kw N K (Ap l) l.length o e.length (Ap e) fuel (n:Int) (kk:Int) (H:Int) (bs.length+1) (take (bs.length*3) (bs.flatMap BusD.av)++[(.str [98,Ayv.getD bs.length 0]),(.imm (B.flatMap Sh) H 1 false false),(.int .i64 s)])=K c.av:=by
   intro s kk s0 s1 L
   have gb:BusG bs.length H (⟨[98,Ayv.getD bs.length 0],.of B false false,s⟩:BusD):=⟨rfl,b1,X,s0,s1⟩
   obtain⟨c,u,v⟩:=Amo (o:=o) hN z h rl rr n fuel kk (bs++[(⟨[98,Ayv.getD bs.length 0],.of B false false,s⟩:BusD)]) (by omega) L (by simp;omega) (by simp;omega) (TB (P:=fun i x=>BusG i H x) bg gb)
   refine⟨c,u,fun K=>?_⟩
   rw[Y,←v K,Az2]
   rfl
  by_cases U:y12=1
  ·have e1:(y12==1)=true:=by simpa using U
   obtain⟨y14,S,y140,y141,C,D⟩:=nx (R:=R) (N:=N) (t:=false) (o:=o) z 200 (by omega) (by omega) A j
   obtain⟨c,u,v⟩:=go (100+y14) S (by omega) (by omega) C
   refine⟨c,u,fun K=>?_⟩
   rw[Kw];unfold X6
   rw[show decide (((n+1:Nat):Int)>0)=true from decide_eq_true (by omega),ct,Rm (by omega),hB,q,e1,ct,D,T,ct,wn,Nd (a:=100+y14) (by omega),Nf b1.symm,v]
  ·have e1:(y12==1)=false:=by simpa using U
   obtain⟨c,u,v⟩:=go 0 A (by omega) (by omega) j
   refine⟨c,u,fun K=>?_⟩
   rw[Kw];unfold X6
   rw[show decide (((n+1:Nat):Int)>0)=true from decide_eq_true (by omega),ct,Rm (by omega),hB,q,e1,cf,T,ct,wn,Nf b1.symm,v]
theorem Aas {N:Nat} {l:List Int} {n:Nat} {t o:Bool} (hn:n=l.length) (hN:4096≤N) (e:l.length≤9223372036854775807):∃ c,JC c∧∀ K:LA→O R,fI N (Ap l) n t o K=K c.av:=by
 subst hn
 obtain⟨y1,v,y10,y11,j,k⟩:=nx (R:=R) (N:=N) (t:=false) (o:=o) e 3 (by omega) (by omega) 0 (by omega)
 obtain⟨H,hH⟩:∃ H:Nat,1+y1=(H:Int):=⟨(1+y1).toNat,by omega⟩
 obtain⟨B,A,b1,C,q,hB⟩:=CV (R:=R) (N:=N) (m:=H) (t:=false) (o:=o) (by omega) e 5 (by omega) (by omega) (by omega) v j
 obtain⟨y6,D,y60,y61,s,u⟩:=nx (R:=R) (N:=N) (t:=false) (o:=o) e 4 (by omega) (by omega) A q
 obtain⟨m,F⟩:∃ m:Nat,1+y6=(m:Int):=⟨(1+y6).toNat,by omega⟩
 obtain⟨c,G,I⟩:=Amo (R:=R) (o:=o) hN e (H:=H) (by omega) b1 C m N D [] (by omega) s (by simp;omega) (by simp;omega) (by simp)
 refine⟨c,G,fun K=>?_⟩
 rw[mT];unfold fH
 rw[MB];unfold eQ
 have z:Ac N 3 (Ap l) l.length false o 0=Ac (R:=R) N 3 (Ap l) l.length false o ((0:Nat):Int):=rfl
 rw[z,k,Nd (a:=1+y1) (by omega),hH,hB,u,Nd (a:=1+y6) (by omega),F,←I K,b1]
 rfl
end
end Gx.Cf
namespace Gx
open Go
def A9 (c:UInt8):Bool:=decide (48≤c.toNat)&&decide (c.toNat≤57)
def By (s:Lu):Nat:=s.foldl (fun a c=>10*a+(c.toNat - 48)) 0
def fL (s:Lu):Bool:=s.all A9&&!s.isEmpty
def D4 (s:Lu):Bool:=fL s&&(s==[48]||s.head? != some 48)
abbrev dec:=Lib.decDigits
theorem Aom (s:Lu):∀ a,s.foldl (fun a c=>10*a+(c.toNat - 48)) a=a*10 ^ s.length+By s:=by
 unfold By
 induction s with
 | nil=>intro a;simp
 | cons c r e =>
  intro a
  rw[A22,A22,e,e (10*0+_),Az5,A0i,A0m,A0m]
  have:10*a*10 ^ r.length=a*(10 ^ r.length*10):=by rw[Az8 10 a,A0c,Az8 10]
  rw[this];omega
theorem Rn (a b:Lu):By (a++b)=By a*10 ^ b.length+By b:=by
 have:=Aom b (By a)
 unfold By at *
 rw[List.foldl_append];exact this
theorem jd (a:Lu) (c:UInt8):By (a++[c])=10*By a+(c.toNat - 48):=by rw[Rn];simp[By];omega
theorem JD (c:UInt8) (r:Lu):By (c::r)=(c.toNat - 48)*10 ^ r.length+By r:=by
 have:=Rn [c] r
 simpa[By] using this
theorem Z5 {s:Lu} (h:s.all A9=true):By s<10 ^ s.length:=by
 induction s with
 | nil=>simp[By]
 | cons c r e =>
  simp only[A1d,A0a] at h
  have j:=e h.2
  have k:c.toNat≤57:=by have:=h.1;simp[A9] at this;omega
  rw[JD,Az5,A0i]
  have:(c.toNat - 48)*10 ^ r.length≤9*10 ^ r.length:=Az9 _ (by omega)
  omega
theorem Ajr (k:Nat) (s:Lu):By (replicate k 48++s)=By s:=by
 rw[Rn]
 have:By (replicate k 48)=0:=by
  induction k with
  | zero=>rfl
  | succ k e=>rw[A3j,JD,e];simp
 rw[this];simp
theorem Gk {u:Nat} (h:u<10):dec u=[UInt8.ofNat (48+u)]:=by rw[dec,Lib.decDigits,dif_pos h]
theorem fM {u:Nat} (h:10≤u):dec u=dec (u/10)++[UInt8.ofNat (48+u%10)]:=by
 rw[dec,Lib.decDigits,dif_neg (by omega)]
theorem WO {k:Nat} (h:k<10):A9 (UInt8.ofNat (48+k))=true∧(UInt8.ofNat (48+k)).toNat=48+k:=by
 have:(UInt8.ofNat (48+k)).toNat=48+k:=by simp;omega
 exact⟨by simp[A9,this];omega,this⟩
theorem Jk:∀ u,(dec u).all A9=true:=by
 intro u
 induction u using Nat.strongRecOn with
 | ind u e =>
  by_cases h:u<10
  ·rw[Gk h];simpa using(WO h).1
  ·rw[fM (by omega),A29,e (u/10) (by omega)]
   simpa using(WO (k:=u%10) (by omega)).1
theorem TC (u:Nat):dec u≠[]:=by
 by_cases h:u<10
 ·rw[Gk h];simp
 ·rw[fM (by omega)];simp
theorem G0:∀ u,By (dec u)=u:=by
 intro u
 induction u using Nat.strongRecOn with
 | ind u e =>
  by_cases h:u<10
  ·rw[Gk h];simp only[By,A22,List.foldl_nil,(WO h).2];omega
  ·rw[fM (by omega),jd,e (u/10) (by omega),(WO (k:=u%10) (by omega)).2];omega
theorem sC:∀ u,0<u→(dec u).head?≠some 48:=by
 intro u
 induction u using Nat.strongRecOn with
 | ind u k =>
  intro n
  by_cases h:u<10
  ·rw[Gk h]
   intro e
   simp at e
   have:=congrArg UInt8.toNat e
   simp at this;omega
  ·rw[fM (by omega)]
   have:=k (u/10) (by omega) (by omega)
   cases j:dec (u/10) with
   | nil=>exact absurd j (TC _)
   | cons c r=>rw[j] at this;simpa using this
theorem JE (u:Nat):D4 (dec u)=true:=by
 have e:=Jk u
 have j:=TC u
 rcases A0q u with h | h
 ·subst h;rw[Gk (by omega)];decide
 ·have k:=sC u h
  simp only[D4,fL,e,A1n,A0a,A4m,bne_iff_ne]
  refine⟨?_,.inr k⟩
  cases n:dec u with
  | nil=>exact absurd n j
  | cons c r=>rfl
theorem Ae6 {c:UInt8} (h:A9 c=true):c=UInt8.ofNat (48+(c.toNat - 48)):=by
 simp[A9] at h
 have:48+(c.toNat - 48)=c.toNat:=by omega
 rw[this];simp
theorem Ae7 {s:Lu} (h:D4 s=true):dec (By s)=s:=by
 have key:∀ (n:Nat) (s:Lu),s.length=n→s.all A9=true→s≠[]→(s.length=1∨s.head?≠some 48)→dec (By s)=s:=by
  intro n
  induction n with
  | zero=>intro s z _ j;exact absurd (A3m.1 z) j
  | succ n C =>
   intro s z q j t
   obtain⟨r,c,rfl⟩:∃ r c,s=r++[c]:=⟨s.dropLast,s.getLast j,(List.dropLast_concat_getLast j).symm⟩
   simp only[A29,A1d,A3z,A19,A0a] at q
   have D:c.toNat - 48<10:=by have:=q.2;simp[A9] at this;omega
   rw[jd]
   cases r with
   | nil =>
    rw[show By []=0 from rfl,A6g,A0g,Gk D,←Ae6 q.2];rfl
   | cons b k =>
    have u:(b::k).head?≠some 48:=by
     rcases t with t | t
     ·simp at t
     ·simpa using t
    have B:0<By (b::k):=by
     rw[JD]
     have F:A9 b=true:=by have:=q.1;simp at this;exact this.1
     have A:b≠48:=by simpa using u
     have:0<b.toNat - 48:=by
      simp[A9] at F
      have:b.toNat≠48:=fun e=>A (A4q.1 (by simpa using e))
      omega
     have:=A3w this (A1l (n:=k.length) (show 0<10 by omega))
     omega
    rw[fM (by omega),show(10*By (b::k)+(c.toNat - 48))/10=By (b::k) by omega,show(10*By (b::k)+(c.toNat - 48))%10=c.toNat - 48 by omega,←Ae6 q.2]
    rw[C (b::k) (by simp at z ⊢;omega) q.1 (by simp) (.inr u)]
 simp only[D4,fL,A0a,A4m,bne_iff_ne] at h
 obtain⟨⟨G,I⟩,v⟩:=h
 refine key _ s rfl G (by intro e;subst e;simp at I) ?_
 rcases v with v | v
 ·left;have:s=[48]:=by simpa using v
  rw[this];rfl
 ·exact .inr v
theorem Ajs {s:Lu} (e:s.all A9=true) (j:s≠[]) (k:s.head?≠some 48):D4 s=true:=by
 simp only[D4,fL,e,A1n,A0a,A4m,bne_iff_ne]
 refine⟨?_,.inr k⟩
 cases s with
 | nil=>exact absurd rfl j
 | cons c r=>rfl
theorem Aon {q r k:Nat} (hq:0<q) (hr:r<10 ^ k) (s:(dec r).length≤k):dec (q*10 ^ k+r)=dec q++(replicate (k - (dec r).length) 48++dec r):=by
 have e:(dec q++(replicate (k - (dec r).length) 48++dec r)).all A9=true:=by
  simp only[A29,Jk,A19,A1n]
  rw[A05];intro x j;rw[A49 j];decide
 have n:D4 (dec q++(replicate (k - (dec r).length) 48++dec r))=true:=by
  refine Ajs e (by simp[TC]) ?_
  have:=sC q hq
  cases h:dec q with
  | nil=>exact absurd h (TC q)
  | cons c t=>rw[h] at this;simpa using this
 rw[←Ae7 n,Rn,Ajr,G0,G0]
 rw[Az2,A1v,show k - (dec r).length+(dec r).length=k by omega]
theorem Aat {u k:Nat} (A:0<k):(dec u).length≤k↔u<10 ^ k:=by
 constructor
 ·intro h
  have:=Z5 (Jk u)
  rw[G0] at this
  exact A1g this (A0y (by omega) h)
 ·intro h
  apply Classical.byContradiction
  intro hn
  have j:k<(dec u).length:=by omega
  have s:0<u:=by
   rcases A0q u with e | e
   ·subst e;rw[Gk (by omega)] at j;simp at j;omega
   ·exact e
  have hh:=sC u s
  cases n:dec u with
  | nil=>exact TC u n
  | cons c r =>
   rw[n] at hh j
   have t:A9 c=true:=by have:=Jk u;rw[n] at this;simp at this;exact this.1
   have q:c≠48:=by simpa using hh
   have v:1≤c.toNat - 48:=by
    simp[A9] at t
    have:c.toNat≠48:=fun e=>q (A4q.1 (by simpa using e))
    omega
   have z:=G0 u
   rw[n,JD] at z
   simp at j
   have B:10 ^ k≤10 ^ r.length:=A0y (by omega) (by omega)
   have C:1*10 ^ r.length≤(c.toNat - 48)*10 ^ r.length:=Az9 _ v
   omega
end Gx
namespace Go.Proofs
open Go.Shelf Go.RowKit
open Go.RowKit
def Tryz.laysM171_ren : Go.Shelf.Ren := ⟨fun | 171 => 116 | 243 => 160 | 246 => 184 | 283 => 204 | 284 => 205 | 285 => 206 | 286 => 207 | 129 => 223 | 317 => 222 | 318 => 224 | 319 => 225 | 320 => 226 | 337 => 244 | 338 => 245 | n => n, fun | 3 => 3 | 9 => 9 | 2 => 2 | 4 => 4 | 171 => 272 | 0 => 0 | 53 => 138 | 37 => 109 | 5 => 5 | 173 => 275 | 212 => 293 | 51 => 222 | 20 => 20 | 213 => 294 | 46 => 241 | 232 => 312 | 233 => 313 | n => n, fun | 17 => 3 | 18 => 4 | 19 => 5 | n => n⟩
theorem Tryz.laysM171 : Go.Proofs.LaysM.n171 Tryz.prog Tryz.laysM171_ren := {
  mixed := by kernel_rfl
  f129 := Tryz.func223.trans (congrArg some (by kernel_rfl))
  f171 := Tryz.func116.trans (congrArg some (by kernel_rfl))
  f243 := Tryz.func160.trans (congrArg some (by kernel_rfl))
  f246 := Tryz.func184.trans (congrArg some (by kernel_rfl))
  f283 := Tryz.func204.trans (congrArg some (by kernel_rfl))
  f284 := Tryz.func205.trans (congrArg some (by kernel_rfl))
  f285 := Tryz.func206.trans (congrArg some (by kernel_rfl))
  f286 := Tryz.func207.trans (congrArg some (by kernel_rfl))
  f317 := Tryz.func222.trans (congrArg some (by kernel_rfl))
  f318 := Tryz.func224.trans (congrArg some (by kernel_rfl))
  f319 := Tryz.func225.trans (congrArg some (by kernel_rfl))
  f320 := Tryz.func226.trans (congrArg some (by kernel_rfl))
  f337 := Tryz.func244.trans (congrArg some (by kernel_rfl))
  f338 := Tryz.func245.trans (congrArg some (by kernel_rfl))
  t0 := Tryz.underlying0
  a0 := Tryz.isAgg0
  z0 := Tryz.sizeOf0
  v0 := Tryz.zeroValue0
  t2 := Tryz.underlying2
  a2 := Tryz.isAgg2
  z2 := Tryz.sizeOf2
  v2 := Tryz.zeroValue2
  t3 := Tryz.underlying3
  a3 := Tryz.isAgg3
  z3 := Tryz.sizeOf3
  v3 := Tryz.zeroValue3
  t4 := Tryz.underlying4
  a4 := Tryz.isAgg4
  z4 := Tryz.sizeOf4
  v4 := Tryz.zeroValue4
  t5 := Tryz.underlying5
  a5 := Tryz.isAgg5
  z5 := Tryz.sizeOf5
  v5 := Tryz.zeroValue5
  t9 := Tryz.underlying9
  a9 := Tryz.isAgg9
  z9 := Tryz.sizeOf9
  v9 := Tryz.zeroValue9
  t20 := Tryz.underlying20
  a20 := Tryz.isAgg20
  z20 := Tryz.sizeOf20
  v20 := Tryz.zeroValue20
  t37 := Tryz.underlying109
  a37 := Tryz.isAgg109
  z37 := Tryz.sizeOf109
  v37 := Tryz.zeroValue109
  t46 := Tryz.underlying241
  a46 := Tryz.isAgg241
  z46 := Tryz.sizeOf241
  v46 := Tryz.zeroValue241
  t51 := Tryz.underlying222
  a51 := Tryz.isAgg222
  z51 := Tryz.sizeOf222
  v51 := Tryz.zeroValue222
  t53 := Tryz.underlying138
  a53 := Tryz.isAgg138
  z53 := Tryz.sizeOf138
  v53 := Tryz.zeroValue138
  t171 := Tryz.underlying272
  a171 := Tryz.isAgg272
  z171 := Tryz.sizeOf272
  v171 := Tryz.zeroValue272
  t173 := Tryz.underlying275
  a173 := Tryz.isAgg275
  z173 := Tryz.sizeOf275
  v173 := Tryz.zeroValue275
  t212 := Tryz.underlying293
  a212 := Tryz.isAgg293
  z212 := Tryz.sizeOf293
  v212 := Tryz.zeroValue293
  t213 := Tryz.underlying294
  a213 := Tryz.isAgg294
  z213 := Tryz.sizeOf294
  t232 := Tryz.underlying312
  a232 := Tryz.isAgg312
  z232 := Tryz.sizeOf312
  v232 := Tryz.zeroValue312
  t233 := Tryz.underlying313
  a233 := Tryz.isAgg313
  z233 := Tryz.sizeOf313
  v233 := Tryz.zeroValue313
  g17 := by kernel_rfl
  g18 := by kernel_rfl
  g19 := by kernel_rfl
  i0 := by kernel_rfl
  i2 := by kernel_rfl
  i3 := by kernel_rfl
  i4 := by kernel_rfl
  i5 := by kernel_rfl
  i9 := by kernel_rfl
  i20 := by kernel_rfl
  i37 := by kernel_rfl
  i46 := by kernel_rfl
  i51 := by kernel_rfl
  i53 := by kernel_rfl
  i171 := by kernel_rfl
  i173 := by kernel_rfl
  i212 := by kernel_rfl
  i232 := by kernel_rfl
  i233 := by kernel_rfl
  m17 := by kernel_rfl
  m18 := by kernel_rfl
  m19 := by kernel_rfl }
def Tryz.laysC172_ren : Go.Shelf.Ren := ⟨fun | 172 => 239 | 244 => 258 | 245 => 259 | 247 => 272 | 279 => 273 | 280 => 274 | 281 => 275 | 282 => 276 | 287 => 279 | 316 => 280 | 171 => 116 | 205 => 281 | 321 => 282 | 322 => 283 | 243 => 160 | 246 => 184 | 283 => 204 | 284 => 205 | 285 => 206 | 286 => 207 | 129 => 223 | 317 => 222 | 318 => 224 | 319 => 225 | 320 => 226 | 337 => 244 | 338 => 245 | n => n, fun | 9 => 9 | 3 => 3 | 75 => 210 | 76 => 211 | 4 => 4 | 5 => 5 | 167 => 321 | 37 => 109 | 0 => 0 | 85 => 322 | 2 => 2 | 168 => 324 | 53 => 138 | 175 => 329 | 46 => 241 | 210 => 333 | 127 => 167 | 145 => 338 | 143 => 336 | 21 => 21 | 171 => 272 | 173 => 275 | 212 => 293 | 51 => 222 | 20 => 20 | 213 => 294 | 232 => 312 | 233 => 313 | 80 => 119 | n => n, fun | 15 => 6 | 16 => 7 | 17 => 3 | 18 => 4 | 19 => 5 | n => n⟩
theorem Tryz.laysC172 : Go.Proofs.LaysC.n172 Tryz.prog Tryz.laysC172_ren := {
  mixed := by kernel_rfl
  f129 := Tryz.func223.trans (congrArg some (by kernel_rfl))
  f171 := Tryz.func116.trans (congrArg some (by kernel_rfl))
  f172 := Tryz.func239.trans (congrArg some (by kernel_rfl))
  f205 := Tryz.func281.trans (congrArg some (by kernel_rfl))
  f243 := Tryz.func160.trans (congrArg some (by kernel_rfl))
  f244 := Tryz.func258.trans (congrArg some (by kernel_rfl))
  f245 := Tryz.func259.trans (congrArg some (by kernel_rfl))
  f246 := Tryz.func184.trans (congrArg some (by kernel_rfl))
  f247 := Tryz.func272.trans (congrArg some (by kernel_rfl))
  f279 := Tryz.func273.trans (congrArg some (by kernel_rfl))
  f280 := Tryz.func274.trans (congrArg some (by kernel_rfl))
  f281 := Tryz.func275.trans (congrArg some (by kernel_rfl))
  f282 := Tryz.func276.trans (congrArg some (by kernel_rfl))
  f283 := Tryz.func204.trans (congrArg some (by kernel_rfl))
  f284 := Tryz.func205.trans (congrArg some (by kernel_rfl))
  f285 := Tryz.func206.trans (congrArg some (by kernel_rfl))
  f286 := Tryz.func207.trans (congrArg some (by kernel_rfl))
  f287 := Tryz.func279.trans (congrArg some (by kernel_rfl))
  f316 := Tryz.func280.trans (congrArg some (by kernel_rfl))
  f317 := Tryz.func222.trans (congrArg some (by kernel_rfl))
  f318 := Tryz.func224.trans (congrArg some (by kernel_rfl))
  f319 := Tryz.func225.trans (congrArg some (by kernel_rfl))
  f320 := Tryz.func226.trans (congrArg some (by kernel_rfl))
  f321 := Tryz.func282.trans (congrArg some (by kernel_rfl))
  f322 := Tryz.func283.trans (congrArg some (by kernel_rfl))
  f337 := Tryz.func244.trans (congrArg some (by kernel_rfl))
  f338 := Tryz.func245.trans (congrArg some (by kernel_rfl))
  t0 := Tryz.underlying0
  a0 := Tryz.isAgg0
  z0 := Tryz.sizeOf0
  v0 := Tryz.zeroValue0
  t2 := Tryz.underlying2
  a2 := Tryz.isAgg2
  z2 := Tryz.sizeOf2
  v2 := Tryz.zeroValue2
  t3 := Tryz.underlying3
  a3 := Tryz.isAgg3
  z3 := Tryz.sizeOf3
  v3 := Tryz.zeroValue3
  t4 := Tryz.underlying4
  a4 := Tryz.isAgg4
  z4 := Tryz.sizeOf4
  v4 := Tryz.zeroValue4
  t5 := Tryz.underlying5
  a5 := Tryz.isAgg5
  z5 := Tryz.sizeOf5
  v5 := Tryz.zeroValue5
  t9 := Tryz.underlying9
  a9 := Tryz.isAgg9
  z9 := Tryz.sizeOf9
  v9 := Tryz.zeroValue9
  t20 := Tryz.underlying20
  a20 := Tryz.isAgg20
  z20 := Tryz.sizeOf20
  v20 := Tryz.zeroValue20
  t21 := Tryz.underlying21
  a21 := Tryz.isAgg21
  z21 := Tryz.sizeOf21
  v21 := Tryz.zeroValue21
  t37 := Tryz.underlying109
  a37 := Tryz.isAgg109
  z37 := Tryz.sizeOf109
  v37 := Tryz.zeroValue109
  t46 := Tryz.underlying241
  a46 := Tryz.isAgg241
  z46 := Tryz.sizeOf241
  v46 := Tryz.zeroValue241
  t51 := Tryz.underlying222
  a51 := Tryz.isAgg222
  z51 := Tryz.sizeOf222
  v51 := Tryz.zeroValue222
  t53 := Tryz.underlying138
  a53 := Tryz.isAgg138
  z53 := Tryz.sizeOf138
  v53 := Tryz.zeroValue138
  t75 := Tryz.underlying210
  a75 := Tryz.isAgg210
  z75 := Tryz.sizeOf210
  v75 := Tryz.zeroValue210
  t76 := Tryz.underlying211
  a76 := Tryz.isAgg211
  z76 := Tryz.sizeOf211
  v76 := Tryz.zeroValue211
  t85 := Tryz.underlying322
  a85 := Tryz.isAgg322
  z85 := Tryz.sizeOf322
  v85 := Tryz.zeroValue322
  t127 := Tryz.underlying167
  a127 := Tryz.isAgg167
  z127 := Tryz.sizeOf167
  v127 := Tryz.zeroValue167
  t143 := Tryz.underlying336
  a143 := Tryz.isAgg336
  z143 := Tryz.sizeOf336
  v143 := Tryz.zeroValue336
  t145 := Tryz.underlying338
  a145 := Tryz.isAgg338
  z145 := Tryz.sizeOf338
  v145 := Tryz.zeroValue338
  t167 := Tryz.underlying321
  a167 := Tryz.isAgg321
  z167 := Tryz.sizeOf321
  v167 := Tryz.zeroValue321
  t168 := Tryz.underlying324
  a168 := Tryz.isAgg324
  z168 := Tryz.sizeOf324
  v168 := Tryz.zeroValue324
  t171 := Tryz.underlying272
  a171 := Tryz.isAgg272
  z171 := Tryz.sizeOf272
  v171 := Tryz.zeroValue272
  t173 := Tryz.underlying275
  a173 := Tryz.isAgg275
  z173 := Tryz.sizeOf275
  v173 := Tryz.zeroValue275
  t175 := Tryz.underlying329
  a175 := Tryz.isAgg329
  z175 := Tryz.sizeOf329
  v175 := Tryz.zeroValue329
  t210 := Tryz.underlying333
  a210 := Tryz.isAgg333
  z210 := Tryz.sizeOf333
  v210 := Tryz.zeroValue333
  t212 := Tryz.underlying293
  a212 := Tryz.isAgg293
  z212 := Tryz.sizeOf293
  v212 := Tryz.zeroValue293
  t213 := Tryz.underlying294
  a213 := Tryz.isAgg294
  z213 := Tryz.sizeOf294
  t232 := Tryz.underlying312
  a232 := Tryz.isAgg312
  z232 := Tryz.sizeOf312
  v232 := Tryz.zeroValue312
  t233 := Tryz.underlying313
  a233 := Tryz.isAgg313
  z233 := Tryz.sizeOf313
  v233 := Tryz.zeroValue313
  g15 := by kernel_rfl
  g16 := by kernel_rfl
  g17 := by kernel_rfl
  g18 := by kernel_rfl
  g19 := by kernel_rfl
  t80 := Tryz.underlying119
  a80 := Tryz.isAgg119
  z80 := Tryz.sizeOf119
  v80 := Tryz.zeroValue119
  i0 := by kernel_rfl
  i2 := by kernel_rfl
  i3 := by kernel_rfl
  i4 := by kernel_rfl
  i5 := by kernel_rfl
  i9 := by kernel_rfl
  i20 := by kernel_rfl
  i21 := by kernel_rfl
  i37 := by kernel_rfl
  i46 := by kernel_rfl
  i51 := by kernel_rfl
  i53 := by kernel_rfl
  i75 := by kernel_rfl
  i76 := by kernel_rfl
  i80 := by kernel_rfl
  i85 := by kernel_rfl
  i127 := by kernel_rfl
  i143 := by kernel_rfl
  i145 := by kernel_rfl
  i167 := by kernel_rfl
  i168 := by kernel_rfl
  i171 := by kernel_rfl
  i173 := by kernel_rfl
  i175 := by kernel_rfl
  i210 := by kernel_rfl
  i212 := by kernel_rfl
  i232 := by kernel_rfl
  i233 := by kernel_rfl
  m15 := by kernel_rfl
  m16 := by kernel_rfl
  m17 := by kernel_rfl
  m18 := by kernel_rfl
  m19 := by kernel_rfl
  c0 := by kernel_rfl
  c2 := by kernel_rfl
  c3 := by kernel_rfl
  c4 := by kernel_rfl
  c5 := by kernel_rfl
  c9 := by kernel_rfl
  c20 := by kernel_rfl
  c21 := by kernel_rfl
  c37 := by kernel_rfl
  c46 := by kernel_rfl
  c51 := by kernel_rfl
  c53 := by kernel_rfl
  c75 := by kernel_rfl
  c76 := by kernel_rfl
  c80 := by kernel_rfl
  c85 := by kernel_rfl
  c127 := by kernel_rfl
  c143 := by kernel_rfl
  c145 := by kernel_rfl
  c167 := by kernel_rfl
  c168 := by kernel_rfl
  c171 := by kernel_rfl
  c173 := by kernel_rfl
  c175 := by kernel_rfl
  c210 := by kernel_rfl
  c212 := by kernel_rfl
  c213 := by kernel_rfl
  c232 := by kernel_rfl
  c233 := by kernel_rfl }
def Tryz.lays145_ren : Go.Shelf.Ren := ⟨fun | 145 => 41 | 220 => 79 | 219 => 120 | 217 => 164 | 225 => 165 | 224 => 166 | 267 => 167 | 266 => 191 | 314 => 192 | n => n, fun | 9 => 9 | 4 => 4 | 59 => 123 | 3 => 3 | 5 => 5 | 46 => 241 | 146 => 262 | 51 => 222 | n => n, fun | 1 => 0 | n => n⟩
theorem Tryz.lays145 : Go.Proofs.Lays.n145 Tryz.prog Tryz.lays145_ren := {
  mixed := by kernel_rfl
  f145 := Tryz.func41.trans (congrArg some (by kernel_rfl))
  f217 := Tryz.func164.trans (congrArg some (by kernel_rfl))
  f219 := Tryz.func120.trans (congrArg some (by kernel_rfl))
  f220 := Tryz.func79.trans (congrArg some (by kernel_rfl))
  f224 := Tryz.func166.trans (congrArg some (by kernel_rfl))
  f225 := Tryz.func165.trans (congrArg some (by kernel_rfl))
  f266 := Tryz.func191.trans (congrArg some (by kernel_rfl))
  f267 := Tryz.func167.trans (congrArg some (by kernel_rfl))
  f314 := Tryz.func192.trans (congrArg some (by kernel_rfl))
  t3 := Tryz.underlying3
  a3 := Tryz.isAgg3
  z3 := Tryz.sizeOf3
  v3 := Tryz.zeroValue3
  t4 := Tryz.underlying4
  a4 := Tryz.isAgg4
  z4 := Tryz.sizeOf4
  v4 := Tryz.zeroValue4
  t5 := Tryz.underlying5
  a5 := Tryz.isAgg5
  z5 := Tryz.sizeOf5
  v5 := Tryz.zeroValue5
  t9 := Tryz.underlying9
  a9 := Tryz.isAgg9
  z9 := Tryz.sizeOf9
  v9 := Tryz.zeroValue9
  t46 := Tryz.underlying241
  a46 := Tryz.isAgg241
  z46 := Tryz.sizeOf241
  v46 := Tryz.zeroValue241
  t51 := Tryz.underlying222
  a51 := Tryz.isAgg222
  z51 := Tryz.sizeOf222
  v51 := Tryz.zeroValue222
  t59 := Tryz.underlying123
  a59 := Tryz.isAgg123
  z59 := Tryz.sizeOf123
  v59 := Tryz.zeroValue123
  t146 := Tryz.underlying262
  a146 := Tryz.isAgg262
  z146 := Tryz.sizeOf262
  v146 := Tryz.zeroValue262
  g1 := by kernel_rfl }
def Tryz.lays146_ren : Go.Shelf.Ren := ⟨fun | 146 => 43 | 221 => 84 | 268 => 123 | 138 => 124 | 143 => 125 | 195 => 170 | 197 => 171 | 218 => 172 | 219 => 120 | 260 => 194 | 217 => 164 | 225 => 165 | 224 => 166 | 267 => 167 | 266 => 191 | 314 => 192 | n => n, fun | 9 => 9 | 31 => 126 | 3 => 3 | 4 => 4 | 0 => 0 | 105 => 247 | 21 => 21 | 5 => 5 | 46 => 241 | 119 => 287 | 139 => 290 | 138 => 289 | 146 => 262 | 51 => 222 | n => n, fun | 1 => 0 | 3 => 1 | 4 => 2 | n => n⟩
theorem Tryz.lays146 : Go.Proofs.Lays.n146 Tryz.prog Tryz.lays146_ren := {
  mixed := by kernel_rfl
  f138 := Tryz.func124.trans (congrArg some (by kernel_rfl))
  f143 := Tryz.func125.trans (congrArg some (by kernel_rfl))
  f146 := Tryz.func43.trans (congrArg some (by kernel_rfl))
  f195 := Tryz.func170.trans (congrArg some (by kernel_rfl))
  f197 := Tryz.func171.trans (congrArg some (by kernel_rfl))
  f217 := Tryz.func164.trans (congrArg some (by kernel_rfl))
  f218 := Tryz.func172.trans (congrArg some (by kernel_rfl))
  f219 := Tryz.func120.trans (congrArg some (by kernel_rfl))
  f221 := Tryz.func84.trans (congrArg some (by kernel_rfl))
  f224 := Tryz.func166.trans (congrArg some (by kernel_rfl))
  f225 := Tryz.func165.trans (congrArg some (by kernel_rfl))
  f260 := Tryz.func194.trans (congrArg some (by kernel_rfl))
  f266 := Tryz.func191.trans (congrArg some (by kernel_rfl))
  f267 := Tryz.func167.trans (congrArg some (by kernel_rfl))
  f268 := Tryz.func123.trans (congrArg some (by kernel_rfl))
  f314 := Tryz.func192.trans (congrArg some (by kernel_rfl))
  t0 := Tryz.underlying0
  a0 := Tryz.isAgg0
  z0 := Tryz.sizeOf0
  v0 := Tryz.zeroValue0
  t3 := Tryz.underlying3
  a3 := Tryz.isAgg3
  z3 := Tryz.sizeOf3
  v3 := Tryz.zeroValue3
  t4 := Tryz.underlying4
  a4 := Tryz.isAgg4
  z4 := Tryz.sizeOf4
  v4 := Tryz.zeroValue4
  t5 := Tryz.underlying5
  a5 := Tryz.isAgg5
  z5 := Tryz.sizeOf5
  v5 := Tryz.zeroValue5
  t9 := Tryz.underlying9
  a9 := Tryz.isAgg9
  z9 := Tryz.sizeOf9
  v9 := Tryz.zeroValue9
  t21 := Tryz.underlying21
  a21 := Tryz.isAgg21
  z21 := Tryz.sizeOf21
  v21 := Tryz.zeroValue21
  t31 := Tryz.underlying126
  a31 := Tryz.isAgg126
  z31 := Tryz.sizeOf126
  v31 := Tryz.zeroValue126
  t46 := Tryz.underlying241
  a46 := Tryz.isAgg241
  z46 := Tryz.sizeOf241
  v46 := Tryz.zeroValue241
  t51 := Tryz.underlying222
  a51 := Tryz.isAgg222
  z51 := Tryz.sizeOf222
  v51 := Tryz.zeroValue222
  t105 := Tryz.underlying247
  a105 := Tryz.isAgg247
  z105 := Tryz.sizeOf247
  v105 := Tryz.zeroValue247
  t119 := Tryz.underlying287
  a119 := Tryz.isAgg287
  z119 := Tryz.sizeOf287
  t138 := Tryz.underlying289
  a138 := Tryz.isAgg289
  z138 := Tryz.sizeOf289
  v138 := Tryz.zeroValue289
  t139 := Tryz.underlying290
  a139 := Tryz.isAgg290
  z139 := Tryz.sizeOf290
  v139 := Tryz.zeroValue290
  t146 := Tryz.underlying262
  a146 := Tryz.isAgg262
  z146 := Tryz.sizeOf262
  v146 := Tryz.zeroValue262
  g1 := by kernel_rfl
  g3 := by kernel_rfl
  g4 := by kernel_rfl }
def Tryz.lays105_ren : Go.Shelf.Ren := ⟨fun | 105 => 233 | 212 => 254 | 99 => 255 | 165 => 256 | 166 => 118 | 170 => 117 | 169 => 40 | 263 => 268 | 264 => 269 | 206 => 270 | 240 => 161 | 241 => 271 | 276 => 185 | 277 => 278 | n => n, fun | 9 => 9 | 3 => 3 | 4 => 4 | 20 => 20 | 0 => 0 | 46 => 241 | 109 => 307 | 5 => 5 | 72 => 111 | 76 => 211 | 51 => 222 | 146 => 262 | 53 => 138 | 148 => 319 | 70 => 108 | 37 => 109 | 75 => 210 | 127 => 167 | 164 => 257 | 80 => 119 | n => n, fun | n => n⟩
theorem Tryz.lays105 : Go.Proofs.Lays.n105 Tryz.prog Tryz.lays105_ren := {
  mixed := by kernel_rfl
  f99 := Tryz.func255.trans (congrArg some (by kernel_rfl))
  f105 := Tryz.func233.trans (congrArg some (by kernel_rfl))
  f165 := Tryz.func256.trans (congrArg some (by kernel_rfl))
  f166 := Tryz.func118.trans (congrArg some (by kernel_rfl))
  f169 := Tryz.func40.trans (congrArg some (by kernel_rfl))
  f170 := Tryz.func117.trans (congrArg some (by kernel_rfl))
  f206 := Tryz.func270.trans (congrArg some (by kernel_rfl))
  f212 := Tryz.func254.trans (congrArg some (by kernel_rfl))
  f240 := Tryz.func161.trans (congrArg some (by kernel_rfl))
  f241 := Tryz.func271.trans (congrArg some (by kernel_rfl))
  f263 := Tryz.func268.trans (congrArg some (by kernel_rfl))
  f264 := Tryz.func269.trans (congrArg some (by kernel_rfl))
  f276 := Tryz.func185.trans (congrArg some (by kernel_rfl))
  f277 := Tryz.func278.trans (congrArg some (by kernel_rfl))
  t0 := Tryz.underlying0
  a0 := Tryz.isAgg0
  z0 := Tryz.sizeOf0
  v0 := Tryz.zeroValue0
  t3 := Tryz.underlying3
  a3 := Tryz.isAgg3
  z3 := Tryz.sizeOf3
  v3 := Tryz.zeroValue3
  t4 := Tryz.underlying4
  a4 := Tryz.isAgg4
  z4 := Tryz.sizeOf4
  v4 := Tryz.zeroValue4
  t5 := Tryz.underlying5
  a5 := Tryz.isAgg5
  z5 := Tryz.sizeOf5
  v5 := Tryz.zeroValue5
  t9 := Tryz.underlying9
  a9 := Tryz.isAgg9
  z9 := Tryz.sizeOf9
  v9 := Tryz.zeroValue9
  t20 := Tryz.underlying20
  a20 := Tryz.isAgg20
  z20 := Tryz.sizeOf20
  v20 := Tryz.zeroValue20
  t37 := Tryz.underlying109
  a37 := Tryz.isAgg109
  z37 := Tryz.sizeOf109
  v37 := Tryz.zeroValue109
  t46 := Tryz.underlying241
  a46 := Tryz.isAgg241
  z46 := Tryz.sizeOf241
  v46 := Tryz.zeroValue241
  t51 := Tryz.underlying222
  a51 := Tryz.isAgg222
  z51 := Tryz.sizeOf222
  v51 := Tryz.zeroValue222
  t53 := Tryz.underlying138
  a53 := Tryz.isAgg138
  z53 := Tryz.sizeOf138
  v53 := Tryz.zeroValue138
  t70 := Tryz.underlying108
  a70 := Tryz.isAgg108
  z70 := Tryz.sizeOf108
  v70 := Tryz.zeroValue108
  t72 := Tryz.underlying111
  a72 := Tryz.isAgg111
  z72 := Tryz.sizeOf111
  v72 := Tryz.zeroValue111
  t75 := Tryz.underlying210
  a75 := Tryz.isAgg210
  z75 := Tryz.sizeOf210
  v75 := Tryz.zeroValue210
  t76 := Tryz.underlying211
  a76 := Tryz.isAgg211
  z76 := Tryz.sizeOf211
  v76 := Tryz.zeroValue211
  t109 := Tryz.underlying307
  a109 := Tryz.isAgg307
  z109 := Tryz.sizeOf307
  v109 := Tryz.zeroValue307
  t127 := Tryz.underlying167
  a127 := Tryz.isAgg167
  z127 := Tryz.sizeOf167
  v127 := Tryz.zeroValue167
  t146 := Tryz.underlying262
  a146 := Tryz.isAgg262
  z146 := Tryz.sizeOf262
  v146 := Tryz.zeroValue262
  t148 := Tryz.underlying319
  a148 := Tryz.isAgg319
  z148 := Tryz.sizeOf319
  v148 := Tryz.zeroValue319
  t164 := Tryz.underlying257
  a164 := Tryz.isAgg257
  z164 := Tryz.sizeOf257
  v164 := Tryz.zeroValue257 }
theorem Tryz.Builder_Extra_105 : Builder.Extra Tryz.prog Tryz.lays105_ren := {
  sizeBuilder := by kernel_rfl
  liesBuilder := by kernel_rfl
  t5 := Tryz.underlying5
  a5 := Tryz.isAgg5
  z5 := Tryz.sizeOf5
  v5 := Tryz.zeroValue5
  infoByte := by kernel_rfl
  cellsByte := by kernel_rfl
  sizeByte := by kernel_rfl
  neB5 := by decide }
end Go.Proofs
namespace Gx
open Go Go.Proofs Go.RowKit
noncomputable section
variable {R:Type} (N:Nat)
def Tc (_N:Nat) (s t:Lu) (r0:Lu→Lu→Bool→O R):O R:=cond (ble s.length 4294967280) (r0 (Lib.cut s t).1 (Lib.cut s t).2.1 (Lib.cut s t).2.2) none
def strings_Cut:=(Af (@Tc R)).1
theorem Qe:@strings_Cut R=@Tc R:=(Af _).2
def Qf (a:LA) (h:Az) (k:KF R):O R :=
 match a,h with
 | [.str s,.str t],[]=>strings_Cut N s t fun x y b=>k (.tup [.str x,.str y,.bool b]) []
 | _,_=>none
def TD:Tw:=⟨fun {R} a h k=>@Qf R N a h k,fun {R} a h k=>by
 unfold Qf
 split
 ·rw[Qe,Qe];unfold Tc;cases ble _ 4294967280<;>rfl
 ·rfl⟩
def Lj (_N:Nat) (s:Lu) (c:Int) (r0:Lu→O R):O R:=cond (decide (0≤c)&&(decide (c≤9223372036854775807)&&decide ((s.length:Int)*c≤140737488355328))) (r0 (Lib.repeatL s c.toNat)) none
def strings_Repeat:=(Af (@Lj R)).1
theorem Ky:@strings_Repeat R=@Lj R:=(Af _).2
def Kz (a:LA) (h:Az) (k:KF R):O R :=
 match a,h with
 | [.str s,.int .i64 c],[]=>strings_Repeat N s c fun x=>k (.str x) []
 | _,_=>none
def FA:Tw:=⟨fun {R} a h k=>@Kz R N a h k,fun {R} a h k=>by
 unfold Kz
 split
 ·rename_i s c
  rw[Ky,Ky];unfold Lj;cases (decide (0≤c)&&(decide (c≤9223372036854775807)&&decide ((s.length:Int)*c≤140737488355328)))<;>rfl
 ·rfl⟩
def Po (_N:Nat) (n:Int) (r0:Lu→O R):O R:=cond (decide (-9223372036854775808≤n)&&decide (n≤9223372036854775807)) (r0 (Lib.itoa n)) none
def strconv_Itoa:=(Af (@Po R)).1
theorem Oe:@strconv_Itoa R=@Po R:=(Af _).2
def Of (a:LA) (h:Az) (k:KF R):O R :=
 match a,h with
 | [.int .i64 n],[]=>strconv_Itoa N n fun x=>k (.str x) []
 | _,_=>none
def PX:Tw:=⟨fun {R} a h k=>@Of R N a h k,fun {R} a h k=>by
 unfold Of
 split
 ·rename_i n
  rw[Oe,Oe];unfold Po;cases (decide (-9223372036854775808≤n)&&decide (n≤9223372036854775807))<;>rfl
 ·rfl⟩
def Pp (_N:Nat) (s:Lu) (r0:Int→O R):O R:=cond (ble s.length 9223372036854775806) (match Lib.atoiAll s with | .ok v=>r0 v | _=>none) none
def Z6:=(Af (@Pp R)).1
theorem Og:@Z6 R=@Pp R:=(Af _).2
def Oh (a:LA) (h:Az) (k:KF R):O R :=
 match a,h with
 | [.str s],[]=>Z6 N s fun x=>k (.tup [.int .i64 x,.undef]) []
 | _,_=>none
def PY:Tw:=⟨fun {R} a h k=>@Oh R N a h k,fun {R} a h k=>by
 unfold Oh
 split
 ·rw[Og,Og];unfold Pp;cases ble _ 9223372036854775806
  ·rfl
  ·cases Lib.atoiAll _<;>rfl
 ·rfl⟩
end
theorem Ae8 (w:World) (n:Nat):Below w.heap.size w (w.drewN n):=⟨rfl,rfl,rfl,Az3 _,fun _ _=>rfl⟩
theorem sD (N:Nat):qx Tryz.prog 41 (TD N):=by
 intro j h k h' q
 have hh:Qf N j h (fun v h'=>some (v,h'))=some (k,h'):=q
 unfold Qf at hh
 split at hh
 ·rename_i s t
  rw[Qe,Tc] at hh
  obtain⟨B,z⟩:=uc hh
  simp at B z
  obtain⟨rfl,rfl⟩:=z
  refine WG fun J β w vs G hr=>?_
  obtain⟨u,v,rfl,e1,A⟩:=rF hr
  simp only[Rep] at e1 A;subst e1 A
  obtain⟨m,C⟩:=G.int (g:=0) (by decide)
  refine(Any.strings_Cut Tryz.lays145 ⟨⟨s⟩⟩ ⟨⟨t⟩⟩ m w (show s.length<4294967281 by omega) C).mono ?_
  rintro e w' ⟨rfl,n,rfl⟩
  refine⟨_,rfl,Ae8 w n,fun J β w=>?_⟩
  rw[Rep]
  exact⟨_,rfl,by simp[Reps,Rep]⟩
 ·cases hh
theorem fN (N:Nat):qx Tryz.prog 233 (FA N):=by
 intro j h k h' q
 have hh:Kz N j h (fun v h'=>some (v,h'))=some (k,h'):=q
 unfold Kz at hh
 split at hh
 ·rename_i s c
  rw[Ky,Lj] at hh
  obtain⟨t,A⟩:=uc hh
  simp only[A0a,decide_eq_true_eq] at t
  simp at A
  obtain⟨rfl,rfl⟩:=A
  refine WG fun J β w vs G hr=>?_
  obtain⟨u,v,rfl,e1,B⟩:=rF hr
  simp only[Rep] at e1 B;subst e1 B
  obtain⟨n,rfl⟩:∃ n:Nat,c=n:=⟨c.toNat,by omega⟩
  by_cases C:s.length=0
  ·have hs:s=[]:=A1w C
   subst hs
   have hn:n≤9223372036854775807:=by have:=t.2.1;omega
   ·refine(Any.strings_Repeat Tryz.lays105 Tryz.Builder_Extra_105 ⟨⟨[]⟩⟩ n w hn (by show 0*n≤_;omega)).mono ?_
    rintro e w' ⟨rfl,z⟩
    exact⟨_,rfl,z,fun J β w=>by rw[Rep];rfl⟩
  ·have D:s.length*n≤140737488355328:=by have:=t.2.2;rw[←A5m] at this;omega
   have F:n≤s.length*n:=Nat.le_mul_of_pos_left n (by omega)
   refine(Any.strings_Repeat Tryz.lays105 Tryz.Builder_Extra_105 ⟨⟨s⟩⟩ n w (by omega) D).mono ?_
   rintro e w' ⟨rfl,z⟩
   exact⟨_,rfl,z,fun J β w=>by rw[Rep];rfl⟩
 ·cases hh
theorem o0 (N:Nat):qx Tryz.prog 116 (PX N):=by
 intro j h q h' s
 have hh:Of N j h (fun v h'=>some (v,h'))=some (q,h'):=s
 unfold Of at hh
 split at hh
 ·rename_i n
  rw[Oe,Po] at hh
  obtain⟨t,z⟩:=uc hh
  simp only[A0a,decide_eq_true_eq] at t
  simp at z
  obtain⟨rfl,rfl⟩:=z
  refine WG fun J β w vs G hr=>?_
  obtain⟨u,rfl,e1⟩:=rE hr
  rw[Rep] at e1;subst e1
  refine(Any.strconv_Itoa Tryz.laysM171 n t.1 t.2 w (G.tab (g:=3) (by simp[Al0,Lib.pow10Tab]) (by kernel_rfl))).mono ?_
  rintro e w' ⟨rfl,k,os,rfl⟩
  refine⟨_,rfl,⟨rfl,rfl,rfl,by simp[Go.Sort.grow],fun i hi=>?_⟩,fun J β w=>by rw[Rep]⟩
  show(w.heap++os)[i]?=_
  rw[A3v hi]
 ·cases hh
theorem strconv_Atoi_ok (N:Nat):qx Tryz.prog 239 (PY N):=by
 intro j h n h' q
 have hh:Oh N j h (fun v h'=>some (v,h'))=some (n,h'):=q
 unfold Oh at hh
 split at hh
 ·rename_i s
  rw[Og,Pp] at hh
  obtain⟨z,k⟩:=uc hh
  simp at z
  split at k
  ·rename_i v A
   simp at k
   obtain⟨rfl,rfl⟩:=k
   refine WG fun J β w vs G hr=>?_
   obtain⟨u,rfl,e1⟩:=rE hr
   rw[Rep] at e1;subst e1
   refine(Any.strconv_Atoi_ok Tryz.laysC172 ⟨⟨s⟩⟩ z v A w).mono ?_
   rintro e w' ⟨rfl,B⟩
   refine⟨_,rfl,?_,fun J β w=>by rw[Rep];exact⟨_,rfl,by rw[Reps];exact⟨_,_,rfl,by rw[Rep],by rw[Reps];exact⟨_,_,rfl,by rw[Rep];trivial,by rw[Reps]⟩⟩⟩⟩
   rcases B with rfl | ⟨t,rfl⟩
   ·exact Below.refl _ _
   ·exact Lib.bytesWorld_below _ _ _
  ·cases k
 ·cases hh
noncomputable def HA (N:Nat):=Arr (TD N) (sD N)
noncomputable def Vi (N:Nat):=Arr (FA N) (fN N)
noncomputable def Ng (N:Nat):=Arr (PX N) (o0 N)
noncomputable def sE (N:Nat):=Arr (PY N) (strconv_Atoi_ok N)
end Gx
namespace Gx
def val:List Nat→Nat
 | []=>0
 | x::r=>x+4294967296*val r
def Ak (l:List Nat):Prop:=∀ x ∈ l,x<4294967296
def Ae9:Nat→Nat→List Nat
 | 0,_=>[]
 | f+1,n=>if n=0 then [] else n%4294967296::Ae9 f (n/4294967296)
def Al (n:Nat):List Nat:=Ae9 n n
theorem Amp:∀ (f n:Nat),n≤f→∀ g,n≤g→Ae9 f n=Ae9 g n
 | 0,n,h,g,_=>by
  have:n=0:=by omega
  subst this;cases g<;>simp[Ae9]
 | f+1,n,h,g,j=>by
  by_cases e:n=0
  ·subst e;cases g<;>simp[Ae9]
  ·cases g with
   | zero=>omega
   | succ g=>simp only[Ae9,e,if_false];rw[Amp f _ (by omega) g (by omega)]
theorem Cz:Al 0=[]:=rfl
theorem FB {n:Nat} (h:n≠0):Al n=n%4294967296::Al (n/4294967296):=by
 unfold Al
 cases n with
 | zero=>omega
 | succ n=>simp only[Ae9,h,if_false];rw[Amp n _ (by omega) ((n+1)/4294967296) (by omega)]
theorem Ah:∀ n,val (Al n)=n:=by
 intro n
 induction n using Nat.strongRecOn with
 | _ n e =>
  by_cases h:n=0
  ·subst h;rfl
  ·rw[FB h,val,e _ (by omega)];omega
theorem Ad:∀ n,Ak (Al n):=by
 intro n
 induction n using Nat.strongRecOn with
 | _ n j =>
  by_cases h:n=0
  ·subst h;intro x e;simp[Cz] at e
  ·rw[FB h];intro x e
   simp at e
   rcases e with rfl | e
   ·omega
   ·exact j _ (by omega) x e
theorem Vj:Ak []:=by intro x e;simp at e
theorem Dc {x:Nat} {r:List Nat}:Ak (x::r)↔x<4294967296∧Ak r:=by simp[Ak]
theorem fO {a b:List Nat}:Ak (a++b)↔Ak a∧Ak b:=by simp[Ak,or_imp,forall_and]
theorem Ch {a:List Nat} (h:Ak a) (n:Nat):Ak (a.take n):=fun x e=>h x (A3b e)
theorem M_ {a:List Nat} (h:Ak a) (n:Nat):Ak (a.drop n):=fun x e=>h x (A3u e)
theorem Ay {a:List Nat} (h:Ak a) {i:Nat} (hi:i<a.length):a[i]<4294967296:=h _ (A0l hi)
theorem Co {a:List Nat} (h:Ak a) {v:Nat} (k:v<4294967296) (i:Nat):Ak (a.set i v):=fun x j=>by
 rcases A4z j with e | e
 ·exact h x e
 ·omega
theorem Cl (n:Nat):Ak (replicate n 0):=fun x e=>by simp at e;omega
theorem Q6:∀ (a b:List Nat),val (a++b)=val a+4294967296 ^ a.length*val b
 | [],b=>by simp[val]
 | x::r,b=>by
  simp only[A0u,val,Az5,Q6 r b,A0i]
  rw[A0h,←A1x,←A0c];congr 2;rw[Az8]
theorem D6:∀ n,val (replicate n 0)=0
 | 0=>rfl
 | n+1=>by rw[A3j,val,D6 n]
theorem B6:∀ {a:List Nat},Ak a→val a<4294967296 ^ a.length
 | [],_=>by simp[val]
 | x::r,h=>by
  have e:=Dc.1 h
  have j:=B6 e.2
  rw[val,Az5,A0i]
  omega
theorem Ajt (a:List Nat) (x:Nat):val (a++[x])=val a+4294967296 ^ a.length*x:=by rw[Q6];simp[val]
theorem NA {n:Nat} (h:n≠0):Al n≠[]:=by rw[FB h];simp
theorem sF {n:Nat}:Al n=[]↔n=0:=by
 constructor
 ·intro h;by_cases e:n=0;exact e;exact absurd h (NA e)
 ·intro h;rw[h];rfl
theorem Bf {n:Nat}:(Al n).length=0↔n=0:=by rw[A3m,sF]
theorem Ba:∀ {l:List Nat},Ak l→l=Al (val l)++replicate (l.length - (Al (val l)).length) 0∧(Al (val l)).length≤l.length
 | [],_=>by simp[val,Cz]
 | x::r,h=>by
  have k:=Dc.1 h
  obtain⟨e,n⟩:=Ba k.2
  rw[val]
  by_cases j:x+4294967296*val r=0
  ·have q:x=0:=by omega
   have hr:val r=0:=by omega
   rw[j,Cz]
   rw[hr,Cz] at e
   simp at e
   subst q
   refine⟨?_,by simp⟩
   rw[A1o,A2g,Nat.sub_zero,Az5,A3j,←e]
  ·rw[FB j,show(x+4294967296*val r)%4294967296=x by omega,show(x+4294967296*val r)/4294967296=val r by omega]
   refine⟨?_,by simp;exact n⟩
   rw[A0u,Az5,Az5,Nat.add_sub_add_right,←e]
theorem fP:∀ (n:Nat) (h:Al n≠[]),(Al n).getLast h≠0:=by
 intro n
 induction n using Nat.strongRecOn with
 | _ n q =>
  intro h
  have s:n≠0:=fun e=>h (by rw[e];rfl)
  have e:=FB s
  by_cases k:n/4294967296=0
  ·rw[k,Cz] at e
   have:n<4294967296:=by omega
   simp[e];omega
  ·have j:=NA k
   have:=q _ (by omega) j
   have t:(Al n).getLast h=(Al (n/4294967296)).getLast j:=by
    simp only[e];rw[List.getLast_cons j]
   rw[t];exact this
theorem Awp:∀ {l:List Nat},Ak l→(∀ h:l≠[],l.getLast h≠0)→Al (val l)=l:=by
 intro l h t
 obtain⟨j,u⟩:=Ba h
 by_cases q:l.length - (Al (val l)).length=0
 ·rw[q] at j;simpa using j.symm
 ·exfalso
  obtain⟨k,q⟩:=Nat.exists_eq_succ_of_ne_zero q
  rw[q,List.replicate_succ',←A10] at j
  have n:l≠[]:=by intro e;rw[e] at j;simp at j
  apply t n
  have s:l.getLast?=some 0:=by rw[j,List.getLast?_append];rfl
  rw[List.getLast?_eq_some_getLast n] at s
  simpa using s
theorem Dn {n k:Nat} (h:n<4294967296 ^ k):(Al n).length≤k:=by
  induction k generalizing n with
  | zero => have : n = 0 := by simpa using h
            subst this;simp[Cz]
  | succ k j =>
    by_cases e:n=0
    · subst e;simp[Cz]
    · rw[FB e,Az5]
      have:n/4294967296<4294967296 ^ k:=by
        rw[A0i] at h
        exact A2y (by rw[Az8];exact h)
      have:=j this
      omega
theorem Bb {a b:Nat} (h:a≤b):(Al a).length≤(Al b).length:=by
 apply Dn
 have:=B6 (Ad b)
 rw[Ah] at this
 omega
theorem Ar8:∀ {l:List Nat} (h:l≠[]),4294967296 ^ (l.length - 1)*l.getLast h≤val l
 | [x],_=>by simp[val]
 | x::y::r,h=>by
  have:=Ar8 (l:=y::r) (by simp)
  rw[List.getLast_cons (by simp),val]
  simp only[Az5,A28] at this ⊢
  rw[A0i,Az8 (4294967296 ^ r.length),A0c]
  omega
theorem yD {U V U3 V2 P d:Nat} (hV:V2*P≤V) (hU:U<(U3+1)*P) (h:U3<d*V2) (e:0<V):U/V<d:=by
 rw[A4e e]
 have k:(U3+1)*P≤d*V2*P:=Az9 _ h
 have j:d*(V2*P)≤d*V:=A0w _ hV
 rw[←A0c] at j
 omega
theorem yE {U V U3 V2 P d:Nat} (hV:V<(V2+1)*P) (hU:U3*P≤U) (h:d*V2≤U3) (j:d≤V2+1) (e:0<V):d≤U/V+1:=by
 cases d with
 | zero=>exact A4l _
 | succ d =>
  have:d≤U/V:=by
   rw[A3r e]
   have k:(d+1)*V2*P≤U3*P:=Az9 _ h
   have n:d*V≤d*((V2+1)*P):=A0w _ (by omega)
   have q:d*((V2+1)*P)≤(d+1)*V2*P:=by
    rw[←A0c]
    apply Az9
    rw[A0h,A0m];omega
   omega
  omega
theorem Afa {a b u v s t x y:Nat} (k:x+v*b=u*a) (n:y+s*a=t*b) (e:u*t=v*s+1):Nat.gcd x y=Nat.gcd a b:=by
 have e1:t*x+v*y=a:=by
  have j:t*x+t*v*b=t*u*a:=by rw[←A0c t u a |>.symm,A0c t v b,←A0h,k]
  have q:v*y+v*s*a=v*t*b:=by rw[A0c,A0c,←A0h,n]
  have z:t*u*a=v*s*a+a:=by rw[Az8 t u,e,A0m,A3t]
  have A:t*v*b=v*t*b:=by rw[Az8 t v]
  omega
 have B:s*x+u*y=b:=by
  have j:s*x+s*v*b=s*u*a:=by rw[A0c,A0c,←A0h,k]
  have q:u*y+u*s*a=u*t*b:=by rw[A0c,A0c,←A0h,n]
  have z:u*t*b=v*s*b+b:=by rw[e,A0m,A3t]
  have A:s*u*a=u*s*a:=by rw[Az8 s u]
  have C:s*v*b=v*s*b:=by rw[Az8 s v]
  omega
 apply Nat.dvd_antisymm
 ·apply Nat.dvd_gcd
  ·rw[←e1];exact Nat.dvd_add (A16 (A2t x y) t) (A16 (A3s x y) v)
  ·rw[←B];exact Nat.dvd_add (A16 (A2t x y) s) (A16 (A3s x y) u)
 ·apply Nat.dvd_gcd
  ·have j:Nat.gcd a b∣x+v*b:=by rw[k];exact A16 (A2t a b) u
   exact(A4j (A16 (A3s a b) v)).1 j
  ·have j:Nat.gcd a b∣y+s*a:=by rw[n];exact A16 (A3s a b) t
   exact(A4j (A16 (A2t a b) s)).1 j
theorem FC {a b x y P u v w:Nat} (e:x*P≤a) (k:b<(y+1)*P) (j:u*x=w+v*y) (n:v≤w):v*b≤u*a:=by
 have q:u*(x*P)≤u*a:=A0w _ e
 have s:v*b≤v*((y+1)*P):=A0w _ (by omega)
 have t:v*((y+1)*P)≤u*(x*P):=by
  rw[←A0c,←A0c]
  apply Az9
  rw[j,A0h];omega
 omega
end Gx
namespace Gx
open Go
section
variable {R:Type}
def Ag (l:List Nat):LA:=l.map fun n:Nat=>.int .u32 (n:Int)
theorem BE (x:Nat) (l:List Nat):Ag (x::l)=.int .u32 (x:Int)::Ag l:=rfl
theorem Bo (l:List Nat):(Ag l).length=l.length:=by simp[Ag]
theorem Aoo (l:List Nat) (n:Nat):(Ag l).drop n=Ag (l.drop n):=by simp[Ag,A5d]
theorem Vk (l:List Nat) (n:Nat):(Ag l).take n=Ag (l.take n):=by simp[Ag,List.map_take]
theorem fQ (l:List Nat) (j:Nat) (v:Nat):List.set (Ag l) j (.int .u32 (v:Int))=Ag (l.set j v):=by simp[Ag,A6a]
theorem C0 (n:Nat):replicate n (AV.int .u32 0)=Ag (replicate n 0):=by simp[Ag]
theorem Afb {l:List Nat} {i:Nat} (h:i<l.length) {f:Int→O R}:As .u32 (drop i (Ag l)) f=f (l[i]:Nat):=by
 rw[Aoo,A0d h,BE,Br]
theorem FD:∀ l:List Nat,A6 (Ag l)=true
 | []=>rfl
 | x::r=>by rw[BE,A6];exact FD r
theorem HB (a b:Nat):(a:Int)+(b:Int)=((a+b:Nat):Int):=by omega
theorem sG (a b:Nat):(a:Int)*(b:Int)=((a*b:Nat):Int):=by simp
theorem In {a:Nat} (h:a<18446744073709551616):wrap .u64 (a:Int)=(a:Int):=wrap_u64 a h
theorem Amq {a:Nat} (h:a<4294967296):wrap .u32 (a:Int)=(a:Int):=wrap_u32 a h
theorem cD (a:Nat):wrap .u32 (a:Int)=((a%4294967296:Nat):Int):=An8 a
theorem YA (a:Int):wrap .u64 a=a%18446744073709551616:=IntKind.wrap_u64 a
theorem je {a b:Nat} (e:a<18446744073709551616) (j:b≤a):wrap .u64 ((a:Int) - (b:Int))=((a - b:Nat):Int):=by rw[YA];omega
theorem Ar9 {a b:Nat} (h:a<b) (e:b≤18446744073709551616):wrap .u64 ((a:Int) - (b:Int))=((18446744073709551616+a - b:Nat):Int):=by rw[YA];omega
theorem jf (a:Nat):Int.fdiv (a:Int) (2 ^ 32)=((a/4294967296:Nat):Int):=Sg a 32
theorem Axt (a:Nat):Int.fdiv (a:Int) (2 ^ 63)=((a/9223372036854775808:Nat):Int):=Sg a 63
theorem i64 {a:Int} (h:-9223372036854775808≤a∧a≤9223372036854775807):wrap .i64 a=a:=wrap_i64 a h
theorem Aju {a b:Nat} (e:a<18446744073709551616) (j:b<18446744073709551616):Rj .u64 (a:Int) (b:Int)=((a ||| b:Nat):Int):=xp rfl e j
theorem jg {a b k:Nat} (h:b<2 ^ k):a*2 ^ k ||| b=a*2 ^ k+b:=by
 rw[←Nat.shiftLeft_eq,Nat.shiftLeft_add_eq_or_of_lt h]
end
end Gx
namespace Gx
open Go Go.Proofs
set_option maxRecDepth 100000
noncomputable section
variable {R:Type} (N:Nat)
def Z7 (N:Nat) (r0:Nat→LA→O R) (b:LA) (a:Nat) (f d:Bool) (k0:Int→O R) (c:Int):O R :=
 (cond ((decide (c>0))==true) (cond (Ae (wrap .i64 (c - 1)) a) (As .u32 (b.drop (((wrap .i64 (c - 1)).toNat)*1)) fun g=>cond (cond true (g==0) false) (k0 (wrap .i64 (c - 1))) (cond ((decide ((0:Int)≤(0:Int)))&&((decide (0≤c))&&((decide (c≤(a:Int)))&&(decide ((a:Int)≤(a:Int)))))) (cond ((!d)||(A6 (b.take ((c.toNat)*1)))) (cond ((ble (0+(c.toNat)) 140737488355328)&&(ble ((0+(c.toNat))*4) 140737488355328)) (r0 (0+(c.toNat)) (b.take ((c.toNat)*1))) none) none) none)) none) (cond ((decide ((0:Int)≤(0:Int)))&&((decide (0≤c))&&((decide (c≤(a:Int)))&&(decide ((a:Int)≤(a:Int)))))) (cond ((!d)||(A6 (b.take ((c.toNat)*1)))) (cond ((ble (0+(c.toNat)) 140737488355328)&&(ble ((0+(c.toNat))*4) 140737488355328)) (r0 (0+(c.toNat)) (b.take ((c.toNat)*1))) none) none) none))
def Nh (r0:Nat→LA→O R) (b:LA) (a:Nat) (f d:Bool):Nat→Int→O R
 | 0,_=>none
 | n+1,c=>Z7 N r0 b a f d (Nh r0 b a f d n) c
def JF (N:Nat) (r0:Nat→LA→O R) (q0:Int→O R) (b:LA) (a:Nat) (f d:Bool):O R :=
 (q0 (a:Int))
def Dz:=(Af fun N b a f d r0=>JF (R:=R) N r0 (Nh N r0 b a f d N) b a f d).1
theorem NB (b a f d r0):(@Dz R N b a f d r0)=(JF N r0 (Nh N r0 b a f d N) b a f d):=by rw[Dz,(Af _).2]
def Afc (F:KF R):=Hh Tryz.f179 lm [] [] N F
def Afd (b:LA) (a:Nat) (f d:Bool) (K:St→O R):=fun c=>K ⟨[(0,(.imm b a 1 f d)),(3,(iv c))],[]⟩
theorem sH (F:KF R) (b a f d):∀ n,Afd b a f d (Ao (Afc N F (pz 336) []) n)=(Nh N (Ca F) b a f d n):=D3 fun n e=>(Bn (Z7 N (Ca F) b a f d) e:_)
def It:=Bj N 179 [] lm (fun
 | [(.imm b a 1 f d)],[]=>some fun _ k=>Dz N b a f d (Ca k)
 | _,_=>none) fun _ _=>by split;intro R F;exact(Bn (JF N (Ca F) · _ _ _ _) ((lW ..).trans (sH ..)):_).trans (NB ..).symm;trivial
def Yv (a:Int) (r0:Nat→LA→O R):O R :=
 (Dz N [(.int .u32 (wrap .u32 a)),(.int .u32 (wrap .u32 (Int.fdiv a (2 ^ 32))))] 2 false true fun b c=>r0 b c)
def G1:=(Af (@Yv R)).1
theorem CW:@G1 R=@Yv R:=(Af _).2
def JG:=Bj N 135 [It N] Ars (fun
 | [(.int .u64 a)],[]=>some fun _ k=>G1 N a (Ca k)
 | _,_=>none) fun _ _=>by split;intro R F;dsimp only;rw[CW];kernel_rfl;trivial
def jh (b:Bool) (c:LA) (d:Nat) (f e:Bool) (r0:LA→O R):O R :=
 (Dz N c d false e fun a g=>cond (b==true) (r0 [(.bool (cond true (decide ((a:Int)>0)) false)),(.imm (g.take (a*1)) a 1 false false)]) (r0 [(.bool false),(.imm (g.take (a*1)) a 1 false false)]))
def G2:=(Af (@jh R)).1
theorem fR:@G2 R=@jh R:=(Af _).2
def Ni:=Bj N 134 [It N] Uh (fun
 | [(.bool b),(.imm c d 1 f e)],[]=>some fun _ k=>G2 N b c d f e (Da k)
 | _,_=>none) fun _ _=>by split;intro R F;dsimp only;rw[fR];kernel_rfl;trivial
def NC (a:Int) (r0:LA→O R):O R :=
 (cond (decide (a<0)) (G1 N (wrap .u64 ((wrap .u64 (wrap .i64 ((0:Int) - (wrap .i64 (a+1)))))+1)) fun d f=>G2 N true (f.take (d*1)) d false true fun b=>cond ((beq 0 0)&&((beq (b.length) 2)&&(beq 2 2))) (cond (ble 2 (b.length)) (r0 (b.take 2)) none) none) (G1 N (wrap .u64 a) fun e g=>G2 N false (g.take (e*1)) e false true fun c=>cond ((beq 0 0)&&((beq (c.length) 2)&&(beq 2 2))) (cond (ble 2 (c.length)) (r0 (c.take 2)) none) none))
def Nj:=(Af (@NC R)).1
theorem PZ:@Nj R=@NC R:=(Af _).2
def ZD:=Bj N 88 [JG N,Ni N] Uh (fun
 | [(.int .i64 a)],[]=>some fun _ k=>Nj N a (Da k)
 | _,_=>none) fun _ _=>by split;intro R F;dsimp only;rw[PZ];kernel_rfl;trivial
def ji (a:LA) (b:Bool) (r0:LA→O R):O R :=
 (Ud a fun d=>Aw 1 (a.drop 1) fun e f=>G2 N d e f false b fun c=>cond ((beq 0 0)&&((beq (c.length) 2)&&(beq 2 2))) (cond (ble 2 (c.length)) (r0 (c.take 2)) none) none)
def JH:=(Af (@ji R)).1
theorem fS:@JH R=@ji R:=(Af _).2
def sI:=Bj N 129 [Ni N] Uh (fun
 | [(.pagg a b)],[]=>some fun _ k=>JH N a b (Da k)
 | _,_=>none) fun _ _=>by split;intro R F;dsimp only;rw[fS];kernel_rfl;trivial
def jj (a:LA) (b:Bool) (r0:Int→O R):O R :=
 (cond (ble 2 (a.length)) (JH N (a.take 2) b fun c=>cond ((beq (c.length) 2)&&((ble 2 (a.length))&&(!false))) (Ud (setCells a 0 c) fun d=>cond d (r0 (-1)) (Aw 1 ((setCells a 0 c).drop 1) fun f e=>cond ((e:Int)==0) (r0 0) (r0 1))) none) none)
def JI:=(Af (@jj R)).1
theorem fT:@JI R=@jj R:=(Af _).2
def sJ:=Bj N 127 [sI N] Bg (fun
 | [(.pagg a b)],[]=>some fun _ k=>JI N a b (Mw k)
 | _,_=>none) fun _ _=>by split;intro R F;dsimp only;rw[fT];kernel_rfl;trivial
def jk (N:Nat) (r0:LA→O R):O R :=
 (r0 [(.bool false),(.imm [] 0 1 false false),(.imm [(.int .u32 1)] 1 1 false false)])
def fU:=(Af (@jk R)).1
theorem fV:@fU R=@jk R:=(Af _).2
def Ajv:=Bj N 128 [] Uh (fun
 | [],[]=>some fun _ k=>fU N (Da k)
 | _,_=>none) fun _ _=>by split;intro R F;dsimp only;rw[fV];kernel_rfl;trivial
def W3 (N:Nat) (r0:Bool→O R) (c:LA) (a:Nat) (f g:Bool) (d:LA) (b:Nat) (h i:Bool) (k0:Int→O R) (j:Int):O R :=
 (cond (decide (j<(a:Int))) (cond (Ae j a) (As .u32 (c.drop ((j.toNat)*1)) fun l=>cond (Ae j b) (As .u32 (d.drop ((j.toNat)*1)) fun m=>cond (l != m) (r0 false) (k0 (wrap .i64 (j+1)))) none) none) (r0 true))
def K3 (r0:Bool→O R) (c:LA) (a:Nat) (f g:Bool) (d:LA) (b:Nat) (h i:Bool):Nat→Int→O R
 | 0,_=>none
 | n+1,j=>W3 N r0 c a f g d b h i (K3 r0 c a f g d b h i n) j
def ND (N:Nat) (r0:Bool→O R) (q0:Int→O R) (c:LA) (a:Nat) (f g:Bool) (d:LA) (b:Nat) (h i:Bool):O R :=
 (cond ((a:Int) != (b:Int)) (r0 false) (q0 0))
def JJ:=(Af fun N c a f g d b h i r0=>ND (R:=R) N r0 (K3 N r0 c a f g d b h i N) c a f g d b h i).1
theorem ZE (c a f g d b h i r0):(@JJ R N c a f g d b h i r0)=(ND N r0 (K3 N r0 c a f g d b h i N) c a f g d b h i):=by rw[JJ,(Af _).2]
def Aau (F:KF R):=Hh Tryz.f130 xm [] [] N F
def Aav (c:LA) (a:Nat) (f g:Bool) (d:LA) (b:Nat) (h i:Bool) (K:St→O R):=fun j=>K ⟨[(0,(.imm c a 1 f g)),(1,(.imm d b 1 h i)),(5,(iv j))],[]⟩
theorem o7 (F:KF R) (c a f g d b h i):∀ n,Aav c a f g d b h i (Ao (Aau N F (pz 1348) []) n)=(K3 N (A8 F) c a f g d b h i n):=D3 fun n e=>(Bn (W3 N (A8 F) c a f g d b h i) e:_)
def Afe:=Bj N 130 [] xm (fun
 | [(.imm c a 1 f g),(.imm d b 1 h i)],[]=>some fun _ k=>JJ N c a f g d b h i (A8 k)
 | _,_=>none) fun _ _=>by split;intro R F;exact(Bn (ND N (A8 F) · _ _ _ _ _ _ _ _) ((lW ..).trans (o7 ..)):_).trans (ZE ..).symm;trivial
def Fo (N:Nat) (r0:Int→Bool→O R) (a:Nat) (b:LA) (k0:Int→Int→O R) (i c:Int):O R :=
 (cond (decide (c≥0)) (cond (Ae c a) (As .u32 (b.drop (0+((c.toNat)*1))) fun j=>k0 (Rj .u64 (wrap .u64 (i*2 ^ 32)) (wrap .u64 j)) (wrap .i64 (c - 1))) none) (r0 i true))
def D7 (r0:Int→Bool→O R) (a:Nat) (b:LA):Nat→Int→Int→O R
 | 0,_,_=>none
 | n+1,i,c=>Fo N r0 a b (D7 r0 a b n) i c
def FE (r0:Int→Bool→O R) (q0:Nat→LA→Int→Int→O R) (d:LA) (f:Nat) (h g:Bool):O R :=
 (Dz N d f false g fun a b=>cond (decide ((a:Int)>2)) (r0 0 false) (q0 a b 0 (wrap .i64 ((a:Int) - 1))))
def Vl:=(Af fun N d f h g r0=>FE (R:=R) N r0 (fun a b=>D7 N r0 a b N) d f h g).1
theorem TE (d f h g r0):(@Vl R N d f h g r0)=(FE N r0 (fun a b=>D7 N r0 a b N) d f h g):=by rw[Vl,(Af _).2]
def ZF:Hints:={ H:=(hK 4 (hS (hK 1 (hS (hP [0,4,5] hL) hL)) hL)) }
def fW:N0:=[It N]
def wJ (F:KF R):=Hh Tryz.f197 ZF (fW N) [] N F
def wK (a:Nat) (b:LA) (K:St→O R):=fun i c=>K ⟨[(0,(.own 300000 0 a)),(4,(.int .u64 i)),(5,(iv c))],(hq [(bQ 1 b)])⟩
theorem jl (F:KF R) (a b):∀ n,wK a b (Ao (wJ N F (pz 21828) []) n)=(D7 N (Aep F) a b n):=D3 fun n e=>(Bn (Fo N (Aep F) a b) e:_)
def Aaw:=Bj N 197 (fW N) ZF (fun
 | [(.imm d f 1 h g)],[]=>some fun _ k=>Vl N d f h g (Aep k)
 | _,_=>none) fun _ _=>by split;intro R F;exact(Bn (FE N (Aep F) · _ _ _ _) (vP fun a b=>(lW ..).trans (jl ..)):_).trans (TE ..).symm;trivial
def Td (N:Nat) (r0:Int→O R) (k0:Int→Int→O R) (f g:Int):O R :=
 (cond (decide (g>0)) (k0 (wrap .i64 (f+1)) (Int.fdiv g (2 ^ 1))) (r0 f))
def Jw (r0:Int→O R):Nat→Int→Int→O R
 | 0,_,_=>none
 | n+1,f,g=>Td N r0 (Jw r0 n) f g
def JK (r0:Int→O R) (q0:Int→Int→O R) (a:LA) (b:Nat) (d c:Bool):O R :=
 (Dz N a b false c fun h i=>cond ((h:Int)==0) (r0 0) (cond (Ae (wrap .i64 ((h:Int) - 1)) h) (As .u32 (i.drop (0+(((wrap .i64 ((h:Int) - 1)).toNat)*1))) fun j=>q0 (wrap .i64 (32*(wrap .i64 ((h:Int) - 1)))) j) none))
def TF:=(Af fun N a b d c r0=>JK (R:=R) N r0 (Jw N r0 N) a b d c).1
theorem NE (a b d c r0):(@TF R N a b d c r0)=(JK N r0 (Jw N r0 N) a b d c):=by rw[TF,(Af _).2]
def m8:Hints:={ H:=(hK 4 (hS (hK 1 (hS (hP [3,4] hL) hL)) hL)) }
def sK:N0:=[It N]
def Aff (F:KF R):=Hh Tryz.f198 m8 (sK N) [] N F
def Afg (K:St→O R):=fun f g=>K ⟨[(3,(iv f)),(4,(.int .u32 g))],[]⟩
theorem sL (F:KF R):∀ n,Afg (Ao (Aff N F (pz 21828) []) n)=(Jw N (Mw F) n):=D3 fun n e=>(Bn (Td N (Mw F)) e:_)
def Ajw:=Bj N 198 (sK N) m8 (fun
 | [(.imm a b 1 d c)],[]=>some fun _ k=>TF N a b d c (Mw k)
 | _,_=>none) fun _ _=>by split;intro R F;exact(Bn (JK N (Mw F) · _ _ _ _) ((lW ..).trans (sL ..)):_).trans (NE ..).symm;trivial
def CX (N:Nat) (k0:Nat→Int→Int→LA→O R) (r0:Nat→LA→O R) (c:LA) (a:Nat) (f g:Bool) (d:LA) (b:Nat) (h i:Bool) (j:Nat) (l:LA) (p m:Int):O R :=
 (cond (decide (m<(b:Int))) (cond (Ae m b) (As .u32 (d.drop ((m.toNat)*1)) fun r=>cond (Ae m j) (cond ((beq 1 1)&&((ble ((0+((m.toNat)*1))+1) (l.length))&&(!false))) (k0 j (Int.fdiv (wrap .u64 (p+(wrap .u64 r))) (2 ^ 32)) (wrap .i64 (m+1)) (l.set (0+((m.toNat)*1)) (.int .u32 (wrap .u32 (wrap .u64 (p+(wrap .u64 r))))))) none) none) none) (cond (Ae m j) (cond ((beq 1 1)&&((ble ((0+((m.toNat)*1))+1) (l.length))&&(!false))) (k0 j (Int.fdiv p (2 ^ 32)) (wrap .i64 (m+1)) (l.set (0+((m.toNat)*1)) (.int .u32 (wrap .u32 p)))) none) none))
def FF (r0:Nat→LA→O R) (c:LA) (a:Nat) (f g:Bool) (d:LA) (b:Nat) (h i:Bool) (k0:Nat→Int→Int→LA→O R) (q1:Nat→LA→Int→Int→O R) (j:Nat) (q o:Int) (l:LA):O R :=
 (cond (decide (o<(j:Int))) (cond (decide (o<(a:Int))) (cond (Ae o a) (As .u32 (c.drop ((o.toNat)*1)) fun s=>q1 j l (wrap .u64 (q+(wrap .u64 s))) o) none) (q1 j l q o)) (Dz N (l.take (j*1)) j false true fun t u=>r0 t u))
def Iu (r0:Nat→LA→O R) (c:LA) (a:Nat) (f g:Bool) (d:LA) (b:Nat) (h i:Bool):Nat→Nat→Int→Int→LA→O R
 | 0,_,_,_,_=>none
 | n+1,j,q,o,l=>FF N r0 c a f g d b h i (Iu r0 c a f g d b h i n) (fun j l=>CX N (Iu r0 c a f g d b h i n) r0 c a f g d b h i j l) j q o l
def fX (N:Nat) (r0:Nat→LA→O R) (q0:Nat→Int→Int→LA→O R) (c:LA) (a:Nat) (f g:Bool) (d:LA) (b:Nat) (h i:Bool):O R :=
 (cond ((decide (0≤(wrap .i64 ((bC (a:Int) (b:Int))+1))))&&((decide ((wrap .i64 ((bC (a:Int) (b:Int))+1))≤(wrap .i64 ((bC (a:Int) (b:Int))+1))))&&((decide ((wrap .i64 ((bC (a:Int) (b:Int))+1))≤140737488355328))&&(decide (((wrap .i64 ((bC (a:Int) (b:Int))+1))*((4:Nat):Int))≤140737488355328))))) (q0 ((wrap .i64 ((bC (a:Int) (b:Int))+1)).toNat) 0 0 (replicate ((wrap .i64 ((bC (a:Int) (b:Int))+1)).toNat) (.int .u32 0))) none)
def NF:=(Af fun N c a f g d b h i r0=>fX (R:=R) N r0 (Iu N r0 c a f g d b h i N) c a f g d b h i).1
theorem m9 (c a f g d b h i r0):(@NF R N c a f g d b h i r0)=(fX N r0 (Iu N r0 c a f g d b h i N) c a f g d b h i):=by rw[NF,(Af _).2]
def sM:Hints:={ H:=(hK 3 (hS (hK 1 (hS (hP [0,1,5,6,7] (hK 1 (hS (hS (hJ [0,1,5,6,7] hL hL) hL) hL))) hL)) hL)),nils:=[(4,1)],modes:=[(2,1)] }
def yF:N0:=[It N]
def sN (F:KF R):=Hh Tryz.f199 sM (yF N) [] N F
def Ajx (c:LA) (a:Nat) (f g:Bool) (d:LA) (b:Nat) (h i:Bool) (j:Nat) (l:LA) (K:St→O R):=fun p m=>K ⟨[(0,(.imm c a 1 f g)),(1,(.imm d b 1 h i)),(5,(.own 300000 0 j)),(6,(.int .u64 p)),(7,(iv m))],(hq [(bQ 1 l)])⟩
def sO (c:LA) (a:Nat) (f g:Bool) (d:LA) (b:Nat) (h i:Bool) (K:St→O R):=fun j q o l=>K ⟨[(0,(.imm c a 1 f g)),(1,(.imm d b 1 h i)),(5,(.own 300000 0 j)),(6,(.int .u64 q)),(7,(iv o))],(hq [(bQ 1 l)])⟩
theorem wL (Q0) (F:KF R) (c a f g d b h i j l):Ajx c a f g d b h i j l (A0 (sN N F (pz 5574721) [Q0]))=(CX N (sO c a f g d b h i Q0) (Ca F) c a f g d b h i j l):=by kernel_rfl
theorem wN (F:KF R) (c a f g d b h i):∀ n,sO c a f g d b h i (Ao (sN N F (pz 5444) []) n)=(Iu N (Ca F) c a f g d b h i n):=D3 fun n e=>(Yq (FF N (Ca F) c a f g d b h i) e (vP fun j l=>(jW ..).trans ((wL ..).trans (vO (CX _ · _ _ _ _ _ _ _ _ _ _ _) e))):_)
def yG:=Bj N 199 (yF N) sM (fun
 | [(.imm c a 1 f g),(.imm d b 1 h i)],[]=>some fun _ k=>NF N c a f g d b h i (Ca k)
 | _,_=>none) fun _ _=>by split;intro R F;exact(Bn (fX N (Ca F) · _ _ _ _ _ _ _ _) ((lW ..).trans (wN ..)):_).trans (m9 ..).symm;trivial
def sP (N:Nat) (c:LA) (b:Nat) (d e:Bool) (a:Int) (r0:Int→O R):O R :=
 (cond (decide ((wrap .i64 (Int.tdiv a 32))≥(b:Int))) (r0 0) (cond (Ae (wrap .i64 (Int.tdiv a 32)) b) (As .u32 (c.drop (((wrap .i64 (Int.tdiv a 32)).toNat)*1)) fun f=>cond (decide ((wrap .u64 (Int.tmod a 32))<0)) none (r0 (Ai2 .u32 (Int.fdiv f (2 ^ (min ((wrap .u64 (Int.tmod a 32)).toNat) 32))) 1))) none))
def po:=(Af (@sP R)).1
theorem m_:@po R=@sP R:=(Af _).2
def Ajy (F:KF R):Int→O R:=(fun g=>F (.int .u32 g) [])
def Aop:=Bj N 200 [] Bg (fun
 | [(.imm c b 1 d e),(.int .i64 a)],[]=>some fun _ k=>po N c b d e a (Ajy k)
 | _,_=>none) fun _ _=>by split;intro R F;dsimp only;rw[m_];kernel_rfl;trivial
def Qg (N:Nat) (r0:Int→O R) (a b:Nat) (c d:LA) (k0:Int→O R) (f:Int):O R :=
 (cond (decide (f≥0)) (cond (Ae f a) (As .u32 (c.drop (0+((f.toNat)*1))) fun q=>cond (Ae f b) (As .u32 (d.drop (0+((f.toNat)*1))) fun r=>cond (decide (q<r)) (r0 (-1)) (cond (Ae f a) (As .u32 (c.drop (0+((f.toNat)*1))) fun s=>cond (Ae f b) (As .u32 (d.drop (0+((f.toNat)*1))) fun t=>cond (decide (s>t)) (r0 1) (k0 (wrap .i64 (f - 1)))) none) none)) none) none) (r0 0))
def G3 (r0:Int→O R) (a b:Nat) (c d:LA):Nat→Int→O R
 | 0,_=>none
 | n+1,f=>Qg N r0 a b c d (G3 r0 a b c d n) f
def Z8 (r0:Int→O R) (q0:Nat→Nat→LA→LA→Int→O R) (g:LA) (h:Nat) (o i:Bool) (j:LA) (l:Nat) (p m:Bool):O R :=
 (Dz N g h false i fun a c=>Dz N j l false m fun b d=>cond ((a:Int) != (b:Int)) (cond (decide ((a:Int)<(b:Int))) (r0 (-1)) (r0 1)) (q0 a b c d (wrap .i64 ((a:Int) - 1))))
def X7:=(Af fun N g h o i j l p m r0=>Z8 (R:=R) N r0 (fun a b c d=>G3 N r0 a b c d N) g h o i j l p m).1
theorem P_ (g h o i j l p m r0):(@X7 R N g h o i j l p m r0)=(Z8 N r0 (fun a b c d=>G3 N r0 a b c d N) g h o i j l p m):=by rw[X7,(Af _).2]
def ZG:N0:=[It N]
def sQ (F:KF R):=Hh Tryz.f221 xn (ZG N) [] N F
def sR (a b:Nat) (c d:LA) (K:St→O R):=fun f=>K ⟨[(0,(.own 300000 0 a)),(1,(.own 300001 0 b)),(5,(iv f))],(hq [(bQ 1 c),(bQ 1 d)])⟩
theorem fY (F:KF R) (a b c d):∀ n,sR a b c d (Ao (sQ N F (pz 5444) []) n)=(G3 N (Mw F) a b c d n):=D3 fun n e=>(Bn (Qg N (Mw F) a b c d) e:_)
def wO:=Bj N 221 (ZG N) xn (fun
 | [(.imm g h 1 o i),(.imm j l 1 p m)],[]=>some fun _ k=>X7 N g h o i j l p m (Mw k)
 | _,_=>none) fun _ _=>by split;intro R F;exact(Bn (Z8 N (Mw F) · _ _ _ _ _ _ _ _) (Ah5 fun a b c d=>(lW ..).trans (fY ..)):_).trans (P_ ..).symm;trivial
def CY (N:Nat) (k0:Int→Int→LA→O R) (r0:Nat→Bool→LA→O R) (a b:Nat) (c d f:LA) (g t:Int):O R :=
 (cond (Ae g a) (As .u32 (c.drop (0+((g.toNat)*1))) fun u=>cond (decide ((wrap .u64 u)<t)) (cond (Ae g a) (cond ((beq 1 1)&&((ble ((0+((g.toNat)*1))+1) (f.length))&&(!false))) (k0 1 (wrap .i64 (g+1)) (f.set (0+((g.toNat)*1)) (.int .u32 (wrap .u32 (wrap .u64 ((wrap .u64 ((wrap .u64 u)+4294967296)) - t)))))) none) none) (cond (Ae g a) (cond ((beq 1 1)&&((ble ((0+((g.toNat)*1))+1) (f.length))&&(!false))) (k0 0 (wrap .i64 (g+1)) (f.set (0+((g.toNat)*1)) (.int .u32 (wrap .u32 (wrap .u64 ((wrap .u64 u) - t)))))) none) none)) none)
def FG (r0:Nat→Bool→LA→O R) (a b:Nat) (c d:LA) (k0:Int→Int→LA→O R) (q1:LA→Int→Int→O R) (s h:Int) (f:LA):O R :=
 (cond (decide (h<(a:Int))) (cond (decide (h<(b:Int))) (cond (Ae h b) (As .u32 (d.drop (0+((h.toNat)*1))) fun v=>q1 f h (wrap .u64 (s+(wrap .u64 v)))) none) (q1 f h s)) (Dz N (f.take (a*1)) a false true fun w x=>r0 w true x))
def Iv (r0:Nat→Bool→LA→O R) (a b:Nat) (c d:LA):Nat→Int→Int→LA→O R
 | 0,_,_,_=>none
 | n+1,s,h,f=>FG N r0 a b c d (Iv r0 a b c d n) (fun f=>CY N (Iv r0 a b c d n) r0 a b c d f) s h f
def fZ (r0:Nat→Bool→LA→O R) (q0:Nat→Nat→LA→LA→Int→Int→LA→O R) (i:LA) (j:Nat) (q l:Bool) (m:LA) (o:Nat) (r p:Bool):O R :=
 (X7 N i j false l m o false p fun y=>cond (decide (y<0)) (r0 0 false []) (Dz N i j false l fun a c=>Dz N m o false p fun b d=>cond ((decide (0≤(a:Int)))&&((decide ((a:Int)≤(a:Int)))&&((decide ((a:Int)≤140737488355328))&&(decide (((a:Int)*((4:Nat):Int))≤140737488355328))))) (q0 a b c d 0 0 (replicate a (.int .u32 0))) none))
def NG:=(Af fun N i j q l m o r p r0=>fZ (R:=R) N r0 (fun a b c d=>Iv N r0 a b c d N) i j q l m o r p).1
theorem mb (i j q l m o r p r0):(@NG R N i j q l m o r p r0)=(fZ N r0 (fun a b c d=>Iv N r0 a b c d N) i j q l m o r p):=by rw[NG,(Af _).2]
def sS:Hints:={ H:=(hK 5 (hS (hK 1 (hS (hP [0,1,6,7,8] (hK 1 (hS (hS (hK 1 (hJ [0,1,6,8,9] hL hL)) hL) hL))) hL)) hL)),nils:=[(4,1)],modes:=[(2,1),(0,0)] }
def yH:N0:=[wO N,It N]
def sT (F:KF R):=Hh Tryz.f201 sS (yH N) [] N F
def Ajz (a b:Nat) (c d f:LA) (K:St→O R):=fun g t=>K ⟨[(0,(.own 300000 0 a)),(1,(.own 300001 0 b)),(6,(.own 300002 0 a)),(8,(iv g)),(9,(.int .u64 t))],(hq [(bQ 1 c),(bQ 1 d),(bQ 1 f)])⟩
def sU (a b:Nat) (c d:LA) (K:St→O R):=fun s h f=>K ⟨[(0,(.own 300000 0 a)),(1,(.own 300001 0 b)),(6,(.own 300002 0 a)),(7,(.int .u64 s)),(8,(iv h))],(hq [(bQ 1 c),(bQ 1 d),(bQ 1 f)])⟩
theorem wQ (Q0) (F:KF R) (a b c d f):Ajz a b c d f (A0 (sT N F (pz 357843205) [Q0]))=(CY N (sU a b c d Q0) (IG F) a b c d f):=by kernel_rfl
theorem wR (F:KF R) (a b c d):∀ n,sU a b c d (Ao (sT N F (pz 87364) []) n)=(Iv N (IG F) a b c d n):=D3 fun n e=>(Yq (FG N (IG F) a b c d) e (Ai5 fun f=>(jW ..).trans ((wQ ..).trans (vO (CY _ · _ _ _ _ _ _) e))):_)
def yI:=Bj N 201 (yH N) sS (fun
 | [(.imm i j 1 q l),(.imm m o 1 r p)],[]=>some fun _ k=>NG N i j q l m o r p (IG k)
 | _,_=>none) fun _ _=>by split;intro R F;exact(Bn (fZ N (IG F) · _ _ _ _ _ _ _ _) (Ah5 fun a b c d=>(lW ..).trans (wR ..)):_).trans (mb ..).symm;trivial
def Lw (k1:Nat→Int→LA→LA→O R) (r0:Nat→Nat→Bool→LA→LA→O R) (b:LA) (a:Nat) (f c:Bool) (d:Nat) (h:Int) (g i:LA) (r:Nat) (s:LA):O R :=
 (NG N (s.take (r*1)) r false true (g.take (d*1)) d false true fun x y z=>cond y (cond (Ae (wrap .i64 (Int.tdiv h 32)) a) (As .u32 (i.drop (0+(((wrap .i64 (Int.tdiv h 32)).toNat)*1))) fun aa=>cond (decide ((wrap .u64 (Int.tmod h 32))<0)) none (cond (Ae (wrap .i64 (Int.tdiv h 32)) a) (cond ((beq 1 1)&&((ble ((0+(((wrap .i64 (Int.tdiv h 32)).toNat)*1))+1) (i.length))&&(!false))) (k1 x (wrap .i64 (h - 1)) (i.set (0+(((wrap .i64 (Int.tdiv h 32)).toNat)*1)) (.int .u32 (Rj .u32 aa (wrap .u32 ((1:Int)*2 ^ (min ((wrap .u64 (Int.tmod h 32)).toNat) 32)))))) z) none) none)) none) (k1 r (wrap .i64 (h - 1)) i s))
def Te (r0:Nat→Nat→Bool→LA→LA→O R) (b:LA) (a:Nat) (f c:Bool) (d:Nat) (g:LA) (k1:Nat→Int→LA→LA→O R) (q2:Int→LA→Nat→LA→O R) (j:Nat) (h:Int) (i p:LA):O R :=
 (cond (decide (h≥0)) (NF N (p.take (j*1)) j false true (p.take (j*1)) j false true fun u v=>po N b a false c h fun ab=>cond (ab==1) (NF N (v.take (u*1)) u false true [(.int .u32 1)] 1 false true fun ac ad=>q2 h i ac ad) (q2 h i u v)) (Dz N (i.take (a*1)) a false true fun ae af=>Dz N (p.take (j*1)) j false true fun ag ah=>r0 ae ag true af ah))
def Fj (r0:Nat→Nat→Bool→LA→LA→O R) (b:LA) (a:Nat) (f c:Bool) (d:Nat) (g:LA):Nat→Nat→Int→LA→LA→O R
 | 0,_,_,_,_=>none
 | n+1,j,h,i,p=>Te N r0 b a f c d g (Fj r0 b a f c d g n) (fun h i=>Lw N (Fj r0 b a f c d g n) r0 b a f c d h g i) j h i p
def CZ (r0:Nat→Nat→Bool→LA→LA→O R) (b:LA) (a:Nat) (f c:Bool) (d:Nat) (g:LA) (q1:Nat→Int→LA→LA→O R):O R :=
 (cond ((decide (0≤(a:Int)))&&((decide ((a:Int)≤(a:Int)))&&((decide ((a:Int)≤140737488355328))&&(decide (((a:Int)*((4:Nat):Int))≤140737488355328))))) (TF N b a false c fun ai=>q1 0 (wrap .i64 (ai - 1)) (replicate a (.int .u32 0)) []) none)
def Pq (r0:Nat→Nat→Bool→LA→LA→O R) (b:LA) (a:Nat) (f c:Bool) (d:Nat) (g:LA):O R:=(CZ N r0 b a f c d g (Fj N r0 b a f c d g N))
def FH (r0:Nat→Nat→Bool→LA→LA→O R) (q0:Nat→LA→O R) (b:LA) (a:Nat) (f c:Bool) (l:LA) (m:Nat) (q o:Bool):O R :=
 (Dz N l m false o fun d g=>cond ((d:Int)==0) (r0 0 0 false [] []) (Vl N b a false c fun w aj=>Vl N (g.take (d*1)) d false true fun t ak=>cond (aj==true) (cond (cond true ak false) (cond (t==0) none (G1 N (wrap .u64 (Int.tdiv w t)) fun al am=>cond (t==0) none (G1 N (Int.tmod w t) fun an ao=>r0 al an true am ao))) (q0 d g)) (q0 d g)))
def Vm:=(Af fun N b a f c l m q o r0=>FH (R:=R) N r0 (fun d g=>Pq N r0 b a f c d g) b a f c l m q o).1
theorem TG (b a f c l m q o r0):(@Vm R N b a f c l m q o r0)=(FH N r0 (fun d g=>Pq N r0 b a f c d g) b a f c l m q o):=by rw[Vm,(Af _).2]
def ZH:Hints:={ H:=(hK 4 (hJ [0,1,5] hL (hK 1 (hS (hK 1 (hS (hP [0,1,4,5,11] (hK 1 (hS (hS (hK 1 (hJ [0,1,4,5,11] hL hL)) hL) hL))) hL)) hL)))),nils:=[(4,1),(5,1)],modes:=[(2,1),(2,1),(0,0)] }
def f4:N0:=[It N,Aaw N,JG N,Ajw N,yG N,Aop N,yI N]
def HC (F:KF R):=Hh Tryz.f175 ZH (f4 N) [] N F
def wT (b:LA) (a:Nat) (f c:Bool) (d:Nat) (h:Int) (g i:LA) (K:St→O R):=fun r s=>K ⟨[(0,(.imm b a 1 f c)),(1,(.own 300000 0 d)),(4,(.own 300001 0 a)),(5,(.own 300002 0 r)),(11,(iv h))],(hq [(bQ 1 g),(bQ 1 i),(bQ 1 s)])⟩
def ZI (b:LA) (a:Nat) (f c:Bool) (d:Nat) (g:LA) (K:St→O R):=fun j h i p=>K ⟨[(0,(.imm b a 1 f c)),(1,(.own 300000 0 d)),(4,(.own 300001 0 a)),(5,(.own 300002 0 j)),(11,(iv h))],(hq [(bQ 1 g),(bQ 1 i),(bQ 1 p)])⟩
def wU (b:LA) (a:Nat) (f c:Bool) (d:Nat) (g:LA) (K:St→O R):=K ⟨[(0,(.imm b a 1 f c)),(1,(.own 300000 0 d)),(5,(.own 300001 0 0))],(hq [(bQ 1 g),(bQ 1 [])])⟩
theorem jm (Q1) (F:KF R) (b a f c d h g i):wT b a f c d h g i (A0 (HC N F (pz 1431585029) [Q1]))=(Lw N (ZI b a f c d g Q1) (lp F) b a f c d h g i):=by kernel_rfl
theorem jn (F:KF R) (b a f c d g):∀ n,ZI b a f c d g (Ao (HC N F (pz 349508) []) n)=(Fj N (lp F) b a f c d g n):=D3 fun n e=>(Yq (Te N (lp F) b a f c d g) e (vP fun h i=>(jW ..).trans ((jm ..).trans (vO (Lw _ · _ _ _ _ _ _ _ _ _) e))):_)
theorem jo (F:KF R) (b a f c d g):wU b a f c d g (A0 (HC N F (pz 1365) []))=(Pq N (lp F) b a f c d g):=(Bn (CZ N (lp F) b a f c d g) ((lW ..).trans (jn ..)):_)
def f5:=Bj N 175 (f4 N) ZH (fun
 | [(.imm b a 1 f c),(.imm l m 1 q o)],[]=>some fun _ k=>Vm N b a f c l m q o (lp k)
 | _,_=>none) fun _ _=>by split;intro R F;exact(Bn (FH N (lp F) · _ _ _ _ _ _ _ _) (vP fun d g=>(jW ..).trans (jo ..)):_).trans (TG ..).symm;trivial
def Ro (r0:Nat→LA→O R) (k0:Nat→Nat→LA→LA→O R) (i a:Nat) (m o:LA):O R :=
 (cond (decide ((a:Int)>0)) (Vm N (m.take (i*1)) i false true (o.take (a*1)) a false true fun v p w x q=>k0 a p o q) (r0 i m))
def Ei (r0:Nat→LA→O R):Nat→Nat→Nat→LA→LA→O R
 | 0,_,_,_,_=>none
 | n+1,i,a,m,o=>Ro N r0 (Ei r0 n) i a m o
def f6 (r0:Nat→LA→O R) (q0:Nat→Nat→LA→LA→O R) (b:LA) (c:Nat) (j d:Bool) (f:LA) (g:Nat) (l h:Bool):O R :=
 (Dz N b c false d fun r s=>Dz N f g false h fun t u=>q0 r t s u)
def f7:=(Af fun N b c j d f g l h r0=>f6 (R:=R) N r0 (Ei N r0 N) b c j d f g l h).1
theorem md (b c j d f g l h r0):(@f7 R N b c j d f g l h r0)=(f6 N r0 (Ei N r0 N) b c j d f g l h):=by rw[f7,(Af _).2]
def sV:Hints:={ H:=(hK 2 (hS (hS (hP [0,1] hL) hL) hL)),nils:=[(4,1)],modes:=[(2,1)] }
def yJ:N0:=[It N,f5 N]
def Aj0 (F:KF R):=Hh Tryz.f174 sV (yJ N) [] N F
def Aj1 (K:St→O R):=fun i a m o=>K ⟨[(0,(.own 300000 0 i)),(1,(.own 300001 0 a))],(hq [(bQ 1 m),(bQ 1 o)])⟩
theorem wV (F:KF R):∀ n,Aj1 (Ao (Aj0 N F (pz 336) []) n)=(Ei N (Ca F) n):=D3 fun n e=>(Bn (Ro N (Ca F)) e:_)
def Aoq:=Bj N 174 (yJ N) sV (fun
 | [(.imm b c 1 j d),(.imm f g 1 l h)],[]=>some fun _ k=>f7 N b c j d f g l h (Ca k)
 | _,_=>none) fun _ _=>by split;intro R F;exact(Bn (f6 N (Ca F) · _ _ _ _ _ _ _ _) ((lW ..).trans (wV ..)):_).trans (md ..).symm;trivial
def sW (a:LA) (b:Bool) (c:LA) (d:Bool) (r0:LA→O R):O R :=
 (Aw 1 (a.drop 1) fun g h=>Aw 1 (c.drop 1) fun i j=>f7 N g h false b i j false d fun f l=>G2 N false (l.take (f*1)) f false true fun e=>cond ((beq 0 0)&&((beq (e.length) 2)&&(beq 2 2))) (cond (ble 2 (e.length)) (r0 (e.take 2)) none) none)
def pp:=(Af (@sW R)).1
theorem mf:@pp R=@sW R:=(Af _).2
def Aor:=Bj N 131 [Aoq N,Ni N] Uh (fun
 | [(.pagg a b),(.pagg c d)],[]=>some fun _ k=>pp N a b c d (Da k)
 | _,_=>none) fun _ _=>by split;intro R F;dsimp only;rw[mf];kernel_rfl;trivial
def Afh (a:LA) (b:Bool) (r0:LA→O R):O R :=
 (Aw 1 (a.drop 1) fun d e=>G2 N false d e false b fun c=>cond ((beq 0 0)&&((beq (c.length) 2)&&(beq 2 2))) (cond (ble 2 (c.length)) (r0 (c.take 2)) none) none)
def Aax:=(Af (@Afh R)).1
theorem Afi:@Aax R=@Afh R:=(Af _).2
def Aos:=Bj N 177 [Ni N] Uh (fun
 | [(.pagg a b)],[]=>some fun _ k=>Aax N a b (Da k)
 | _,_=>none) fun _ _=>by split;intro R F;dsimp only;rw[Afi];kernel_rfl;trivial
def sX (a:LA) (c:Bool) (b:LA) (d:Bool) (r0:LA→O R):O R :=
 (Ud a fun l=>Ud b fun m=>cond (l==m) (Ud a fun n=>Aw 1 (a.drop 1) fun o p=>Aw 1 (b.drop 1) fun q r=>NF N o p false c q r false d fun h s=>G2 N n (s.take (h*1)) h false true fun e=>cond ((beq 0 0)&&((beq (e.length) 2)&&(beq 2 2))) (cond (ble 2 (e.length)) (r0 (e.take 2)) none) none) (Aw 1 (a.drop 1) fun t u=>Aw 1 (b.drop 1) fun v w=>NG N t u false c v w false d fun i x y=>cond x (Ud a fun z=>G2 N z (y.take (i*1)) i false true fun f=>cond ((beq 0 0)&&((beq (f.length) 2)&&(beq 2 2))) (cond (ble 2 (f.length)) (r0 (f.take 2)) none) none) (Aw 1 (b.drop 1) fun aa ab=>Aw 1 (a.drop 1) fun ac ad=>NG N aa ab false d ac ad false c fun j ag ae=>Ud b fun af=>G2 N af (ae.take (j*1)) j false true fun g=>cond ((beq 0 0)&&((beq (g.length) 2)&&(beq 2 2))) (cond (ble 2 (g.length)) (r0 (g.take 2)) none) none)))
def FI:=(Af (@sX R)).1
theorem mg:@FI R=@sX R:=(Af _).2
def jq:=Bj N 176 [yG N,Ni N,yI N] Uh (fun
 | [(.pagg a c),(.pagg b d)],[]=>some fun _ k=>FI N a c b d (Da k)
 | _,_=>none) fun _ _=>by split;intro R F;dsimp only;rw[mg];kernel_rfl;trivial
def sY (a:LA) (b:Bool) (r0:LA→O R):O R :=
 (Ud a fun d=>Aw 1 (a.drop 1) fun e f=>G2 N (!d) e f false b fun c=>cond ((beq 0 0)&&((beq (c.length) 2)&&(beq 2 2))) (cond (ble 2 (c.length)) (r0 (c.take 2)) none) none)
def FJ:=(Af (@sY R)).1
theorem mh:@FJ R=@sY R:=(Af _).2
def jr:=Bj N 133 [Ni N] Uh (fun
 | [(.pagg a b)],[]=>some fun _ k=>FJ N a b (Da k)
 | _,_=>none) fun _ _=>by split;intro R F;dsimp only;rw[mh];kernel_rfl;trivial
def Afj (a:LA) (c:Bool) (b:LA) (d:Bool) (r0:LA→O R):O R :=
 (cond (ble 2 (a.length)) (cond (ble 2 (b.length)) (FJ N (b.take 2) d fun f=>FI N (a.take 2) c f false fun e=>cond ((beq 0 0)&&((beq (e.length) 2)&&(beq 2 2))) (cond (ble 2 (e.length)) (r0 (e.take 2)) none) none) none) none)
def Aay:=(Af (@Afj R)).1
theorem Afk:@Aay R=@Afj R:=(Af _).2
def Aot:=Bj N 178 [jr N,jq N] Uh (fun
 | [(.pagg a c),(.pagg b d)],[]=>some fun _ k=>Aay N a c b d (Da k)
 | _,_=>none) fun _ _=>by split;intro R F;dsimp only;rw[Afk];kernel_rfl;trivial
def TH (g:LA) (i:Bool) (f:LA) (h:Bool) (r0:LA→LA→Bool→O R):O R :=
 (Aw 1 (g.drop 1) fun m n=>Aw 1 (f.drop 1) fun o p=>Vm N m n false i o p false h fun j l q r s=>cond (!q) (r0 [(.bool false),.nsl] [(.bool false),.nsl] false) (Ud g fun t=>Ud f fun u=>G2 N (!(t==u)) (r.take (j*1)) j false true fun a=>Ud g fun v=>G2 N v (s.take (l*1)) l false true fun b=>cond ((beq 0 0)&&((beq (a.length) 2)&&(beq 2 2))) (cond ((beq 0 0)&&((beq (b.length) 2)&&(beq 2 2))) (Ud b fun w=>cond w (cond (ble 2 (b.length)) (cond (ble 2 (f.length)) (Aax N (f.take 2) h fun x=>FI N (b.take 2) false x false fun c=>cond ((beq (c.length) 2)&&((ble 2 (b.length))&&(!false))) (Ud f fun y=>cond y (cond (ble 2 (a.length)) (Nj N 1 fun z=>FI N (a.take 2) false z false fun d=>cond ((beq (d.length) 2)&&((ble 2 (a.length))&&(!false))) (cond (ble 2 ((setCells a 0 d).length)) (cond (ble 2 ((setCells b 0 c).length)) (cond ((beq (((setCells a 0 d).take 2).length) 2)&&((ble 2 ((setCells a 0 d).length))&&(!false))) (cond ((beq (((setCells b 0 c).take 2).length) 2)&&((ble 2 ((setCells b 0 c).length))&&(!false))) (cond (ble 2 ((setCells (setCells a 0 d) 0 ((setCells a 0 d).take 2)).length)) (cond (ble 2 ((setCells (setCells b 0 c) 0 ((setCells b 0 c).take 2)).length)) (r0 ((setCells (setCells a 0 d) 0 ((setCells a 0 d).take 2)).take 2) ((setCells (setCells b 0 c) 0 ((setCells b 0 c).take 2)).take 2) true) none) none) none) none) none) none) none) none) (cond (ble 2 (a.length)) (Nj N 1 fun aa=>Aay N (a.take 2) false aa false fun e=>cond ((beq (e.length) 2)&&((ble 2 (a.length))&&(!false))) (cond (ble 2 ((setCells a 0 e).length)) (cond (ble 2 ((setCells b 0 c).length)) (cond ((beq (((setCells a 0 e).take 2).length) 2)&&((ble 2 ((setCells a 0 e).length))&&(!false))) (cond ((beq (((setCells b 0 c).take 2).length) 2)&&((ble 2 ((setCells b 0 c).length))&&(!false))) (cond (ble 2 ((setCells (setCells a 0 e) 0 ((setCells a 0 e).take 2)).length)) (cond (ble 2 ((setCells (setCells b 0 c) 0 ((setCells b 0 c).take 2)).length)) (r0 ((setCells (setCells a 0 e) 0 ((setCells a 0 e).take 2)).take 2) ((setCells (setCells b 0 c) 0 ((setCells b 0 c).take 2)).take 2) true) none) none) none) none) none) none) none) none)) none) none) none) (cond (ble 2 (a.length)) (cond (ble 2 (b.length)) (cond ((beq ((a.take 2).length) 2)&&((ble 2 (a.length))&&(!false))) (cond ((beq ((b.take 2).length) 2)&&((ble 2 (b.length))&&(!false))) (cond (ble 2 ((setCells a 0 (a.take 2)).length)) (cond (ble 2 ((setCells b 0 (b.take 2)).length)) (r0 ((setCells a 0 (a.take 2)).take 2) ((setCells b 0 (b.take 2)).take 2) true) none) none) none) none) none) none)) none) none))
def C_:=(Af (@TH R)).1
theorem TI:@C_ R=@TH R:=(Af _).2
def Aaz:=Bj N 132 [f5 N,Ni N,Aos N,jq N,ZD N,Aot N] { H:=hL,modes:=[(3,0),(3,0),(0,0)] } (fun
 | [(.pagg g i),(.pagg f h)],[]=>some fun _ k=>C_ N g i f h (Amb k)
 | _,_=>none) fun _ _=>by split;intro R F;dsimp only;rw[TI];kernel_rfl;trivial
def FK (r0:LA→O R) (d:Bool) (b:LA) (c:Bool) (a:LA):O R :=
 (cond (ble 2 (b.length)) (cond (ble 2 (a.length)) (pp N (b.take 2) d (a.take 2) c fun h=>cond ((beq 0 0)&&((beq (h.length) 2)&&(beq 2 2))) (cond (ble 2 (b.length)) (cond (ble 2 (h.length)) (C_ N (b.take 2) d (h.take 2) false fun e t ab=>cond ((beq 0 0)&&((beq (e.length) 2)&&(beq 2 2))) (cond ((beq 0 0)&&((beq (t.length) 2)&&(beq 2 2))) (cond (ble 2 (a.length)) (cond (ble 2 (h.length)) (C_ N (a.take 2) c (h.take 2) false fun f u ac=>cond ((beq 0 0)&&((beq (f.length) 2)&&(beq 2 2))) (cond ((beq 0 0)&&((beq (u.length) 2)&&(beq 2 2))) (Ud f fun v=>cond v (cond (ble 2 (e.length)) (FJ N (e.take 2) false fun g=>cond (ble 2 (f.length)) (FJ N (f.take 2) false fun s=>cond ((beq (g.length) 2)&&((ble 2 (e.length))&&(!false))) (cond ((beq (s.length) 2)&&((ble 2 (f.length))&&(!false))) (cond (ble 2 ((setCells e 0 g).length)) (Aw 1 ((setCells f 0 s).drop 1) fun l m=>cond ((beq (((setCells e 0 g).take 2).length) 2)&&(ble 2 3)) (cond ((beq 1 1)&&(ble 3 ((setCells [(.bool false),.nsl,.nsl] 0 ((setCells e 0 g).take 2)).length))) (cond ((beq 0 0)&&((beq (((setCells [(.bool false),.nsl,.nsl] 0 ((setCells e 0 g).take 2)).set 2 (.imm l m 1 false false)).length) 3)&&(beq 3 3))) (cond (ble 3 (((setCells [(.bool false),.nsl,.nsl] 0 ((setCells e 0 g).take 2)).set 2 (.imm l m 1 false false)).length)) (r0 (((setCells [(.bool false),.nsl,.nsl] 0 ((setCells e 0 g).take 2)).set 2 (.imm l m 1 false false)).take 3)) none) none) none) none) none) none) none) none) none) (cond (ble 2 (e.length)) (Aw 1 (f.drop 1) fun n o=>cond ((beq ((e.take 2).length) 2)&&(ble 2 3)) (cond ((beq 1 1)&&(ble 3 ((setCells [(.bool false),.nsl,.nsl] 0 (e.take 2)).length))) (cond ((beq 0 0)&&((beq (((setCells [(.bool false),.nsl,.nsl] 0 (e.take 2)).set 2 (.imm n o 1 false false)).length) 3)&&(beq 3 3))) (cond (ble 3 (((setCells [(.bool false),.nsl,.nsl] 0 (e.take 2)).set 2 (.imm n o 1 false false)).length)) (r0 (((setCells [(.bool false),.nsl,.nsl] 0 (e.take 2)).set 2 (.imm n o 1 false false)).take 3)) none) none) none) none) none)) none) none) none) none) none) none) none) none) none) none) none)
def WP (r0:LA→O R) (q0:O R) (b:LA) (d:Bool) (a:LA) (c:Bool):O R :=
 (cond (ble 2 (a.length)) (JI N (a.take 2) c fun w=>cond (w==0) (fU N fun p=>cond ((beq 0 0)&&((beq (p.length) 3)&&(beq 3 3))) (cond (ble 3 (p.length)) (r0 (p.take 3)) none) none) (cond (ble 2 (a.length)) (JH N (a.take 2) c fun j=>cond ((beq 0 0)&&((beq (j.length) 2)&&(beq 2 2))) (Ud j fun x=>cond ((!x)==true) (Aw 1 (j.drop 1) fun y z=>JJ N y z false false [(.int .u32 1)] 1 false true fun aa=>cond (cond true aa false) (cond (ble 2 (b.length)) (JH N (b.take 2) d fun i=>Aw 1 (j.drop 1) fun q r=>cond ((beq (i.length) 2)&&(ble 2 3)) (cond ((beq 1 1)&&(ble 3 ((setCells [(.bool false),.nsl,.nsl] 0 i).length))) (cond ((beq 0 0)&&((beq (((setCells [(.bool false),.nsl,.nsl] 0 i).set 2 (.imm q r 1 false false)).length) 3)&&(beq 3 3))) (cond (ble 3 (((setCells [(.bool false),.nsl,.nsl] 0 i).set 2 (.imm q r 1 false false)).length)) (r0 (((setCells [(.bool false),.nsl,.nsl] 0 i).set 2 (.imm q r 1 false false)).take 3)) none) none) none) none) none) q0) q0) none) none)) none)
def Tf:=(Af fun N b d a c r0=>WP (R:=R) N r0 (FK N r0 d b c a) b d a c).1
theorem f_ (b d a c r0):(@Tf R N b d a c r0)=(WP N r0 (FK N r0 d b c a) b d a c):=by rw[Tf,(Af _).2]
def mj:Hints:={ H:=(hK 2 (hJ [2,3,4] hL hL)),modes:=[(3,0)] }
def sZ:N0:=[sJ N,Ajv N,sI N,Afe N,Aor N,Aaz N,jr N]
def Afl (F:KF R):=Hh Tryz.f87 mj (sZ N) [] N F
def Afm (d:Bool) (b:LA) (c:Bool) (a:LA) (K:St→O R):=K ⟨[(2,(op 0)),(3,(op 1)),(4,(op 2))],(hq [(bP d 0 b),(bP c 0 a),(bN 0 [(.bool false),.nsl,.nsl])])⟩
theorem s5 (F:KF R) (d b c a):Afm d b c a (A0 (Afl N F (pz 85) []))=(FK N (Da F) d b c a):=by kernel_rfl
def NH:=Bj N 87 (sZ N) mj (fun
 | [(.pagg b d),(.pagg a c)],[]=>some fun _ k=>Tf N b d a c (Da k)
 | _,_=>none) fun _ _=>by split;intro R F;exact(Bn (WP N (Da F) · _ _ _ _) ((jW ..).trans (s5 ..)):_).trans (f_ ..).symm;trivial
def Aa0 (a b:Int) (r0:LA→O R):O R :=
 (Nj N a fun d=>Nj N b fun e=>Tf N d false e false fun c=>cond ((beq 0 0)&&((beq (c.length) 3)&&(beq 3 3))) (cond (ble 3 (c.length)) (r0 (c.take 3)) none) none)
def js:=(Af (@Aa0 R)).1
theorem s6:@js R=@Aa0 R:=(Af _).2
def Afn:=Bj N 47 [ZD N,NH N] Uh (fun
 | [(.int .i64 a),(.int .i64 b)],[]=>some fun _ k=>js N a b (Da k)
 | _,_=>none) fun _ _=>by split;intro R F;dsimp only;rw[s6];kernel_rfl;trivial
def W4 (N:Nat) (r0:LA→Nat→O R) (c:LA) (a:Nat) (d b:Bool) (k0:Int→O R) (f:Int):O R :=
 (cond ((decide (f>0))==true) (cond (Ae (wrap .i64 (f - 1)) a) (As .u32 (c.drop (((wrap .i64 (f - 1)).toNat)*1)) fun g=>cond (cond true (g==0) false) (k0 (wrap .i64 (f - 1))) (cond ((decide ((0:Int)≤(0:Int)))&&((decide (0≤f))&&((decide (f≤(a:Int)))&&(decide ((a:Int)≤(a:Int)))))) (r0 (c.take ((f.toNat)*1)) (f.toNat)) none)) none) (cond ((decide ((0:Int)≤(0:Int)))&&((decide (0≤f))&&((decide (f≤(a:Int)))&&(decide ((a:Int)≤(a:Int)))))) (r0 (c.take ((f.toNat)*1)) (f.toNat)) none))
def K4 (r0:LA→Nat→O R) (c:LA) (a:Nat) (d b:Bool):Nat→Int→O R
 | 0,_=>none
 | n+1,f=>W4 N r0 c a d b (K4 r0 c a d b n) f
def NI (N:Nat) (r0:LA→Nat→O R) (q0:Int→O R) (c:LA) (a:Nat) (d b:Bool):O R :=
 (q0 (a:Int))
def Cp:=(Af fun N c a d b r0=>NI (R:=R) N r0 (K4 N r0 c a d b N) c a d b).1
theorem ZJ (c a d b r0):(@Cp R N c a d b r0)=(NI N r0 (K4 N r0 c a d b N) c a d b):=by rw[Cp,(Af _).2]
def Aa1 (F:KF R):=Hh Tryz.f203 lm [] [] N F
def Z9 (b:Bool) (F:KF R):LA→Nat→O R:=(fun h i=>F (.imm h i 1 false b) [])
def Aa2 (c:LA) (a:Nat) (d b:Bool) (K:St→O R):=fun f=>K ⟨[(0,(.imm c a 1 d b)),(3,(iv f))],[]⟩
theorem o8 (F:KF R) (c a d b):∀ n,Aa2 c a d b (Ao (Aa1 N F (pz 336) []) n)=(K4 N (Z9 b F) c a d b n):=D3 fun n e=>(Bn (W4 N (Z9 b F) c a d b) e:_)
def Jx:=Bj N 203 [] lm (fun
 | [(.imm c a 1 d b)],[]=>some fun _ k=>Cp N c a d b (Z9 b k)
 | _,_=>none) fun _ _=>by split;rename_i c a d b;intro R F;exact(Bn (NI N (Z9 b F) · c a d b) ((lW ..).trans (o8 ..)):_).trans (ZJ ..).symm;trivial
def ZK (N:Nat) (r0:LA→O R) (k0:O R):O R :=
 (r0 [])
def Tg (r0:LA→O R):Nat→O R
 | 0=>none
 | n+1=>ZK N r0 (Tg r0 n)
def NJ (N:Nat) (r0:LA→O R) (q0:O R):O R :=
 q0
def JL:=(Af fun N r0=>NJ (R:=R) N r0 (Tg N r0 N)).1
theorem ZL (r0):(@JL R N r0)=(NJ N r0 (Tg N r0 N)):=by rw[JL,(Af _).2]
def Aa3 (F:KF R):=Hh Tryz.f203 lm [] [] N F
def AA (F:KF R):LA→O R:=(fun a=>F (.own 300000 0 0) (hq [(bQ 1 a)]))
def Aa4 (K:St→O R):=K ⟨[(0,.nsl),(3,(iv 0))],[]⟩
theorem o_ (F:KF R):∀ n,Aa4 (Ao (Aa3 N F (pz 336) []) n)=(Tg N (AA F) n):=D3 fun n e=>(Bn (ZK N (AA F)) e:_)
def Afo:=Bj N 203 [] lm (fun
 | [.nsl],[]=>some fun _ k=>JL N (AA k)
 | _,_=>none) fun _ _=>by split;intro R F;exact(Bn (NJ N (AA F)) ((lW ..).trans (o_ ..)):_).trans (ZL ..).symm;trivial
def DA (N:Nat) (r0:Int→O R) (c:LA) (a:Nat) (b:Bool) (d:LA) (k0:Int→O R) (f:Int):O R :=
 (cond (decide (f≥0)) (cond (Ae f a) (As .u32 (c.drop ((f.toNat)*1)) fun j=>cond (Ae f 0) (As .u32 (d.drop (0+((f.toNat)*1))) fun l=>cond (decide (j<l)) (r0 (-1)) (cond (Ae f a) (As .u32 (c.drop ((f.toNat)*1)) fun m=>cond (Ae f 0) (As .u32 (d.drop (0+((f.toNat)*1))) fun o=>cond (decide (m>o)) (r0 1) (k0 (wrap .i64 (f - 1)))) none) none)) none) none) (r0 0))
def Pr (r0:Int→O R) (c:LA) (a:Nat) (b:Bool) (d:LA):Nat→Int→O R
 | 0,_=>none
 | n+1,f=>DA N r0 c a b d (Pr r0 c a b d n) f
def FL (r0:Int→O R) (q0:LA→Nat→LA→Int→O R) (g:LA) (h:Nat) (i b:Bool):O R :=
 (Cp N g h i b fun c a=>JL N fun d=>cond ((a:Int) != 0) (cond (decide ((a:Int)<0)) (r0 (-1)) (r0 1)) (q0 c a d (wrap .i64 ((a:Int) - 1))))
def Vn:=(Af fun N g h i b r0=>FL (R:=R) N r0 (fun c a d=>Pr N r0 c a b d N) g h i b).1
theorem TJ (g h i b r0):(@Vn R N g h i b r0)=(FL N r0 (fun c a d=>Pr N r0 c a b d N) g h i b):=by rw[Vn,(Af _).2]
def EG:=At6 (Jx N) (Afo N) (Eq.refl 203)
def fa:N0:=[EG N]
def wW (F:KF R):=Hh Tryz.f183 xn (fa N) [] N F
def wX (c:LA) (a:Nat) (b:Bool) (d:LA) (K:St→O R):=fun f=>K ⟨[(0,(.imm c a 1 false b)),(1,(.own 300000 0 0)),(5,(iv f))],(hq [(bQ 1 d)])⟩
theorem jt (F:KF R) (c a b d):∀ n,wX c a b d (Ao (wW N F (pz 5444) []) n)=(Pr N (Mw F) c a b d n):=D3 fun n e=>(Bn (DA N (Mw F) c a b d) e:_)
def fb:=Bj N 183 (fa N) xn (fun
 | [(.imm g h 1 i b),.nsl],[]=>some fun _ k=>Vn N g h i b (Mw k)
 | _,_=>none) fun _ _=>by split;intro R F;exact(Bn (FL N (Mw F) · _ _ _ _) (Avo fun c a d=>(lW ..).trans (jt ..)):_).trans (TJ ..).symm;trivial
def WQ (a:LA) (b:Bool) (r0:LA→Bool→LA→Nat→Bool→O R):O R :=
 (Aw 1 (a.drop 2) fun c d=>Vn N c d false b fun e=>cond (e==0) (r0 [(.bool false),.nsl] false [(.int .u32 1)] 1 false) (cond (ble 2 (a.length)) (Aw 1 (a.drop 2) fun f g=>cond ((beq 0 0)&&((beq ((a.take 2).length) 2)&&(beq 2 2))) (cond (ble 2 ((a.take 2).length)) (r0 ((a.take 2).take 2) b f g b) none) none) none))
def TK:=(Af (@WQ R)).1
theorem NK:@TK R=@WQ R:=(Af _).2
def Afp (F:KF R):LA→Bool→LA→Nat→Bool→O R:=(fun h i j l m=>F (.tup [(.pagg h i),(.imm j l 1 false m)]) [])
def s7:=Bj N 158 [fb N] { H:=hL,nils:=[(3,1)],modes:=[(3,0),(1,1)] } (fun
 | [(.pagg a b)],[]=>some fun _ k=>TK N a b (Afp k)
 | _,_=>none) fun _ _=>by split;intro R F;dsimp only;rw[NK];kernel_rfl;trivial
def s8 (a:LA) (b:Bool) (r0:Int→O R):O R :=
 (Aw 1 (a.drop 1) fun c d=>Vn N c d false b fun e=>cond (e==0) (r0 0) (Ud a fun f=>cond f (r0 (-1)) (r0 1)))
def Qh:=(Af (@s8 R)).1
theorem mm:@Qh R=@s8 R:=(Af _).2
def JM:=Bj N 159 [fb N] Bg (fun
 | [(.pagg a b)],[]=>some fun _ k=>Qh N a b (Mw k)
 | _,_=>none) fun _ _=>by split;intro R F;dsimp only;rw[mm];kernel_rfl;trivial
def s9 (a:LA) (b:Bool) (r0:Int→O R):O R :=
 (cond (ble 3 (a.length)) (TK N (a.take 3) b fun c d f g h=>cond ((beq 0 0)&&((beq (c.length) 2)&&(beq 2 2))) (cond (ble 2 (c.length)) (Qh N (c.take 2) d fun e=>r0 e) none) none) none)
def WR:=(Af (@s9 R)).1
theorem mo:@WR R=@s9 R:=(Af _).2
def yK:=Bj N 115 [s7 N,JM N] Bg (fun
 | [(.pagg a b)],[]=>some fun _ k=>WR N a b (Mw k)
 | _,_=>none) fun _ _=>by split;intro R F;dsimp only;rw[mo];kernel_rfl;trivial
def Jy (N:Nat) (r0:Int→O R) (b:LA) (a:Nat) (c d:Bool) (k0:Int→Int→Int→O R) (g h f:Int):O R :=
 (cond (decide (f<h)) (cond (Ae f a) (As .u32 (b.drop ((f.toNat)*1)) fun i=>cond (decide ((wrap .i64 (32*f))<0)) none (k0 (Rj .u64 g (wrap .u64 ((wrap .u64 i)*2 ^ (min ((wrap .i64 (32*f)).toNat) 64)))) h (wrap .i64 (f+1)))) none) (r0 g))
def Iw (r0:Int→O R) (b:LA) (a:Nat) (c d:Bool):Nat→Int→Int→Int→O R
 | 0,_,_,_=>none
 | n+1,g,h,f=>Jy N r0 b a c d (Iw r0 b a c d n) g h f
def fc (N:Nat) (r0:Int→O R) (q0:Int→Int→Int→O R) (b:LA) (a:Nat) (c d:Bool):O R :=
 (q0 0 (a:Int) 0)
def Th:=(Af fun N b a c d r0=>fc (R:=R) N r0 (Iw N r0 b a c d N) b a c d).1
theorem mq (b a c d r0):(@Th R N b a c d r0)=(fc N r0 (Iw N r0 b a c d N) b a c d):=by rw[Th,(Af _).2]
def s_:Hints:={ H:=(hK 2 (hS (hK 1 (hS (hP [3,6,7,8] hL) hL)) hL)) }
def Aj2 (F:KF R):=Hh Tryz.f246 s_ [] [] N F
def Aj3 (b:LA) (a:Nat) (c d:Bool) (K:St→O R):=fun g h f=>K ⟨[(3,(.int .u64 g)),(6,(.imm b a 1 c d)),(7,(iv h)),(8,(iv f))],[]⟩
theorem wY (F:KF R) (b a c d):∀ n,Aj3 b a c d (Ao (Aj2 N F (pz 1348) []) n)=(Iw N (Aeq F) b a c d n):=D3 fun n e=>(Bn (Jy N (Aeq F) b a c d) e:_)
def ju:=Bj N 246 [] s_ (fun
 | [(.imm b a 1 c d)],[]=>some fun _ k=>Th N b a c d (Aeq k)
 | _,_=>none) fun _ _=>by split;intro R F;exact(Bn (fc N (Aeq F) · _ _ _ _) ((lW ..).trans (wY ..)):_).trans (mq ..).symm;trivial
def cE (b:LA) (c:Nat) (d a:Bool) (r0:Int→Bool→O R):O R :=
 (Cp N b c d a fun f e=>cond (decide ((e:Int)>2)) (r0 0 false) (Th N f e false a fun g=>r0 g true))
def BF:=(Af (@cE R)).1
theorem ZM:@BF R=@cE R:=(Af _).2
def mt:=Bj N 227 [Jx N,ju N] Bg (fun
 | [(.imm b c 1 d a)],[]=>some fun _ k=>BF N b c d a (Aep k)
 | _,_=>none) fun _ _=>by split;intro R F;dsimp only;rw[ZM];kernel_rfl;trivial
def Fp (N:Nat) (r0:Int→Int→Bool→O R) (b a:Int) (d:Bool) (c:LA) (e:Bool):O R :=
 (cond e (r0 0 0 false) (cond (a==0) (r0 0 1 true) (Ud c fun f=>cond f (r0 (wrap .i64 ((0:Int) - (wrap .i64 b))) (wrap .i64 a) true) (r0 (wrap .i64 b) (wrap .i64 a) true))))
def BG (r0:Int→Int→Bool→O R) (q0:Int→Int→Bool→O R) (c:LA) (d:Bool):O R :=
 (Aw 1 (c.drop 1) fun g h=>BF N g h false d fun b i=>Aw 1 (c.drop 2) fun j l=>BF N j l false d fun a m=>cond ((!i)==false) (cond ((cond false true (!m))==false) (cond ((cond false true (decide (b≥2147483648)))==false) (q0 b a (cond false true (decide (a≥2147483648)))) (q0 b a true)) (q0 b a true)) (q0 b a true))
def DB:=(Af fun N c d r0=>BG (R:=R) N r0 (fun b a=>Fp N r0 b a d c) c d).1
theorem AB (c d r0):(@DB R N c d r0)=(BG N r0 (fun b a=>Fp N r0 b a d c) c d):=by rw[DB,(Af _).2]
def mu:Hints:={ H:=(hK 3 (hS (hS (hJ [1,5,6,21] hL hL) hL) hL)) }
def sa:N0:=[mt N]
def Afq (F:KF R):=Hh Tryz.f208 mu (sa N) [] N F
def TL (F:KF R):Int→Int→Bool→O R:=(fun n o p=>F (.tup [(iv n),(iv o),(.bool p)]) [])
def Afr (b a:Int) (d:Bool) (c:LA) (K:St→O R):=fun e=>K ⟨[(1,(op 0)),(5,(.int .u64 b)),(6,(.int .u64 a)),(21,(.bool e))],(hq [(bP d 0 c)])⟩
theorem sb (F:KF R) (b a d c):Afr b a d c (A0 (Afq N F (pz 5441) []))=(Fp N (TL F) b a d c):=by kernel_rfl
def Aj4:=Bj N 208 (sa N) mu (fun
 | [(.pagg c d)],[]=>some fun _ k=>DB N c d (TL k)
 | _,_=>none) fun _ _=>by split;intro R F;exact(Bn (BG N (TL F) · _ _) (vP fun b a=>(jW ..).trans (sb ..)):_).trans (AB ..).symm;trivial
def NL (N:Nat) (r0:Nat→O R) (a:Nat) (b:LA) (k0:Int→O R) (c:Int):O R :=
 (cond ((decide (c>0))==true) (cond (Ae (wrap .i64 (c - 1)) a) (As .u32 (b.drop (0+(((wrap .i64 (c - 1)).toNat)*1))) fun d=>cond (cond true (d==0) false) (k0 (wrap .i64 (c - 1))) (cond ((decide ((0:Int)≤(0:Int)))&&((decide (0≤c))&&((decide (c≤(a:Int)))&&(decide ((a:Int)≤(a:Int)))))) (r0 (c.toNat)) none)) none) (cond ((decide ((0:Int)≤(0:Int)))&&((decide (0≤c))&&((decide (c≤(a:Int)))&&(decide ((a:Int)≤(a:Int)))))) (r0 (c.toNat)) none))
def Vo (r0:Nat→O R) (a:Nat) (b:LA):Nat→Int→O R
 | 0,_=>none
 | n+1,c=>NL N r0 a b (Vo r0 a b n) c
def fe (N:Nat) (r0:Nat→O R) (q0:Int→O R) (a:Nat) (b:LA):O R :=
 (q0 (a:Int))
def DC:=(Af fun N a b r0=>fe (R:=R) N r0 (Vo N r0 a b N) a b).1
theorem cF (a b r0):(@DC R N a b r0)=(fe N r0 (Vo N r0 a b N) a b):=by rw[DC,(Af _).2]
def Aou (F:KF R):=Hh Tryz.f203 lm [] [100000] N F
def WS (b:LA) (F:KF R):Nat→O R:=(fun f=>F (.own 100000 0 f) [(100000,(bQ 1 b))])
def Aov (a:Nat) (b:LA) (K:St→O R):=fun c=>K ⟨[(0,(.own 100000 0 a)),(3,(iv c))],[(100000,(bQ 1 b))]⟩
theorem Aa5 (F:KF R) (a b):∀ n,Aov a b (Ao (Aou N F (pz 336) []) n)=(Vo N (WS b F) a b n):=D3 fun n e=>(Bn (NL N (WS b F) a b) e:_)
def ff:=Bj N 203 [] lm (fun
 | [(.own 100000 0 a)],[(100000,⟨false,false,true,false,1,b,false,none⟩)]=>some fun _ k=>DC N a b (WS b k)
 | _,_=>none) fun _ _=>by split;rename_i a b;intro R F;exact(Bn (fe N (WS b F) · a b) ((lW ..).trans (Aa5 ..)):_).trans (cF ..).symm;trivial
def DD (a:Int) (r0:Nat→LA→O R):O R :=
 (DC N 2 [(.int .u32 (wrap .u32 a)),(.int .u32 (wrap .u32 (Int.fdiv a (2 ^ 32))))] fun b=>r0 b [(.int .u32 (wrap .u32 a)),(.int .u32 (wrap .u32 (Int.fdiv a (2 ^ 32))))])
def Bu:=(Af (@DD R)).1
theorem FM:@Bu R=@DD R:=(Af _).2
def Hp:=Bj N 213 [ff N] Ars (fun
 | [(.int .u64 a)],[]=>some fun _ k=>Bu N a (Ca k)
 | _,_=>none) fun _ _=>by split;intro R F;dsimp only;rw[FM];kernel_rfl;trivial
end
end Gx
namespace Gx
open Go Go.Proofs
section
variable {R:Type}
def fit (k N:Nat):Prop:=100*k+1000≤N∧k≤1000000000
theorem fit.le {j k N:Nat} (h:fit k N) (e:j≤k):fit j N:=⟨by have:=h.1;omega,by have:=h.2;omega⟩
theorem ct (x y:O R):cond true x y=x:=rfl
theorem cf (x y:O R):cond false x y=y:=rfl
theorem Aun (x y:Bool):cond true x y=x:=rfl
theorem Azf (x y:Bool):cond false x y=y:=rfl
theorem Awq (c:Nat):((decide (((c+1:Nat):Int)>(0:Int)))==true)=true:=by simp
theorem Gh {j n:Nat} (h:j<n):decide ((j:Int)<(n:Int))=true:=by simp;omega
theorem H2 {j n:Nat} (h:n≤j):decide ((j:Int)<(n:Int))=false:=by simp;omega
theorem wS {j:Nat} (h:j≤1000000000000):wrap .i64 ((j:Int)+1)=((j+1:Nat):Int):=by rw[i64 (by omega)];omega
theorem wP {j:Nat} (h:j≤1000000000000):wrap .i64 (((j+1:Nat):Int) - 1)=(j:Int):=by rw[i64 (by omega)];omega
theorem wA {j k:Nat} (h:j+k≤1000000000000):wrap .i64 ((j:Int)+(k:Int))=((j+k:Nat):Int):=by rw[i64 (by omega)];omega
theorem QA {l:List Nat} {j:Nat} (h:j<l.length) {f:Int→O R}:As .u32 (drop ((Int.toNat (j:Int))*1) (Ag l)) f=f (l[j]:Nat):=by
 rw[Az1,A0b,Afb h]
theorem fg {l:List Nat} {j:Nat} (h:j<l.length) {f:Int→O R}:As .u32 (drop (0+((Int.toNat (j:Int))*1)) (Ag l)) f=f (l[j]:Nat):=by
 rw[A0g,QA h]
theorem Avv {c a:Nat} (h:c≤a):((decide ((0:Int)≤(0:Int)))&&((decide ((0:Int)≤(c:Int)))&&((decide ((c:Int)≤(a:Int)))&&(decide ((a:Int)≤(a:Int))))))=true:=by
 simp;omega
theorem Aq0 {n:Nat} (h:n≤1000000000000):((decide ((0:Int)≤(n:Int)))&&((decide ((n:Int)≤(n:Int)))&&((decide ((n:Int)≤(140737488355328:Int)))&&(decide (((n:Int)*((4:Nat):Int))≤(140737488355328:Int))))))=true:=by
 simp;omega
theorem xe {x:Nat} {m:List Nat} (h:x<m.length):((beq 1 1)&&((ble ((0+((Int.toNat (x:Int))*1))+1) (List.length (Ag m)))&&(!false)))=true:=by
 rw[Bo,Az1];simp;omega
theorem TM {x v:Nat} {m:List Nat}:List.set (Ag m) (0+((Int.toNat (x:Int))*1)) (.int .u32 (v:Int))=Ag (m.set x v):=by
 rw[Az1,A0b,A0g,fQ]
theorem Afs {l:List Nat} (h:Ak l):l.take (Al (val l)).length=Al (val l):=by
 obtain⟨e,j⟩:=Ba h
 rw[congrArg (take (Al (val l)).length) e,A5x]
theorem Lx {l:List Nat} (h:Ak l):take ((Al (val l)).length*1) (Ag l)=Ag (Al (val l)):=by rw[A0b,Vk,Afs h]
theorem Av {l:List Nat} {c:Nat} (h:c<l.length):val (l.take (c+1))=val (l.take c)+4294967296 ^ c*l[c]:=by
 rw[A02 h,Ajt,A0o,A0x (by omega)]
theorem Aa6 {l:List Nat} {c:Nat} (e:Ak l) (h:c<l.length) (j:l[c]≠0):Al (val (l.take (c+1)))=l.take (c+1):=by
 apply Awp (Ch e _)
 intro k
 rw[A20]
 simp only[A0o,A0x (show c+1≤l.length by omega),A28,List.getElem_take]
 exact j
theorem JN {N:Nat} {l:List Nat} {K:Nat→O R} (j:Ak l) (hs:l.length≤1000000000000):∀ (c fuel:Nat),c≤l.length→c<fuel →
  Vo N K l.length (Ag l) fuel (c:Int)=K (Al (val (l.take c))).length
 | 0,fuel+1,k,_=>by
  rw[Vo];unfold NL
  rw[show decide (((0:Nat):Int)>0)=false by simp]
  rw[show((false:Bool)==true)=false by rfl,cf,Avv (by omega),ct,Az1];rfl
 | c+1,fuel+1,k,n=>by
  rw[Vo];unfold NL
  rw[Awq,ct,wP (by omega),Aa (by omega),ct,fg (by omega),Aun,Avv (by omega),ct,JN j hs c fuel (by omega) (by omega),Az1]
  by_cases e:l[c]=0
  ·rw[Av (by omega),e];simp
  ·rw[Aa6 j (by omega) e,A0o,A0x k]
   rw[show(((l[c]:Nat):Int)==0)=false by simp;exact e,cf]
theorem JO {N:Nat} {l:List Nat} {n:Nat} {K:Nat→O R} (hn:n=l.length) (j:Ak l) (e:fit l.length N):DC N n (Ag l) K=K (Al (val l)).length:=by
 subst hn
 have k:=e.1;have q:=e.2
 rw[cF];unfold fe
 rw[JN j (by omega) l.length N (Az3 _) (by omega),A06]
theorem yL {N:Nat} {l:List Nat} {t o:Bool} {K:LA→Nat→O R} (j:Ak l) (hs:l.length≤1000000000000):∀ (c fuel:Nat),c≤l.length→c<fuel →
  K4 N K (Ag l) l.length t o fuel (c:Int)=K (Ag (Al (val (l.take c)))) (Al (val (l.take c))).length
 | 0,fuel+1,k,_=>by
  rw[K4];unfold W4
  rw[show decide (((0:Nat):Int)>0)=false by simp]
  rw[show((false:Bool)==true)=false by rfl,cf,Avv (by omega),ct,Az1];rfl
 | c+1,fuel+1,k,n=>by
  rw[K4];unfold W4
  rw[Awq,ct,wP (by omega),Aa (by omega),ct,QA (by omega),Aun,Avv (by omega),ct,yL j hs c fuel (by omega) (by omega),Az1,A0b,Vk]
  by_cases e:l[c]=0
  ·rw[Av (by omega),e];simp
  ·rw[Aa6 j (by omega) e,A0o,A0x k]
   rw[show(((l[c]:Nat):Int)==0)=false by simp;exact e,cf]
theorem Bp {N:Nat} {l:List Nat} {n:Nat} {t o:Bool} {K:LA→Nat→O R} (hn:n=l.length) (j:Ak l) (e:fit l.length N):Cp N (Ag l) n t o K=K (Ag (Al (val l))) (Al (val l)).length:=by
 subst hn
 have k:=e.1;have q:=e.2
 rw[ZJ];unfold NI
 rw[yL j (by omega) l.length N (Az3 _) (by omega),A06]
theorem Aow {N:Nat} {K:LA→O R} (hN:1≤N):JL N K=K []:=by
 rw[ZL];unfold NJ
 cases N with
 | zero=>omega
 | succ N=>rw[Tg];rfl
end
end Gx
namespace Gx
open Go Go.Proofs
set_option maxRecDepth 100000
noncomputable section
variable {R:Type} (N:Nat)
def Lk (r0:LA→O R) (a b c:Int) (k1:Int→Int→O R) (d f:Int):O R :=
 (cond (f != 0) (cond (f==0) none (k1 f (Int.tmod d f))) (cond (d==0) none (Bu N (wrap .u64 (Int.tdiv c d)) fun g i=>cond (d==0) none (Bu N (wrap .u64 (Int.tdiv (wrap .u64 b) d)) fun h j=>r0 [(.bool (decide (a<0))),(.imm (i.take (g*1)) g 1 false false),(.imm (j.take (h*1)) h 1 false false)]))))
def C1 (r0:LA→O R) (a b c:Int):Nat→Int→Int→O R
 | 0,_,_=>none
 | n+1,d,f=>Lk N r0 a b c (C1 r0 a b c n) d f
def Yw (N:Nat) (r0:LA→O R) (a b:Int) (q1:Int→Int→Int→O R) (c:Int):O R :=
 (q1 c (wrap .u64 b) c)
def Ti (r0:LA→O R) (a b:Int) (c:Int):O R:=(Yw N r0 a b (fun c=>C1 N r0 a b c N) c)
def AC (N:Nat) (r0:LA→O R) (q0:Int→O R) (a b:Int):O R :=
 (cond (decide (a<0)) (q0 (wrap .u64 ((0:Int) - (wrap .u64 a)))) (q0 (wrap .u64 a)))
def Rp:=(Af fun N a b r0=>AC (R:=R) N r0 (Ti N r0 a b) a b).1
theorem QB (a b r0):(@Rp R N a b r0)=(AC N r0 (Ti N r0 a b) a b):=by rw[Rp,(Af _).2]
def TN:Hints:={ H:=(hK 2 (hJ [0,1,4,5] hL (hK 1 (hS (hS (hP [0,1,4,5,6,7] hL) hL) hL)))),modes:=[(3,0)] }
def ZN:N0:=[Hp N]
def TO (F:KF R):=Hh Tryz.f209 TN (ZN N) [] N F
def sc (a b c:Int) (K:St→O R):=fun d f=>K ⟨[(0,(iv a)),(1,(iv b)),(4,(op 0)),(5,(.int .u64 c)),(6,(.int .u64 d)),(7,(.int .u64 f))],(hq [(bN 0 [(.bool false),.nsl,.nsl])])⟩
def sd (a b:Int) (K:St→O R):=fun c=>K ⟨[(0,(iv a)),(1,(iv b)),(4,(op 0)),(5,(.int .u64 c))],(hq [(bN 0 [(.bool false),.nsl,.nsl])])⟩
theorem fh (F:KF R) (a b c):∀ n,sc a b c (Ao (TO N F (pz 5456) []) n)=(C1 N (Da F) a b c n):=D3 fun n e=>(Bn (Lk N (Da F) a b c) e:_)
theorem fi (F:KF R) (a b):sd a b (A0 (TO N F (pz 85) []))=(Ti N (Da F) a b):=(Bn (Yw N (Da F) a b) (Ai5 fun c=>(lW ..).trans (fh ..)):_)
def wZ:=Bj N 209 (ZN N) TN (fun
 | [(.int .i64 a),(.int .i64 b)],[]=>some fun _ k=>Rp N a b (Da k)
 | _,_=>none) fun _ _=>by split;intro R F;exact(Bn (AC N (Da F) · _ _) ((jW ..).trans (fi ..)):_).trans (QB ..).symm;trivial
def se (c:LA) (d:Nat) (e b:Bool) (r0:Nat→LA→O R):O R :=
 (Cp N c d e b fun f a=>cond ((decide (0≤(a:Int)))&&((decide ((a:Int)≤(a:Int)))&&((decide ((a:Int)≤140737488355328))&&(decide (((a:Int)*((4:Nat):Int))≤140737488355328))))) (cond ((!b)||(A6 f)) (r0 a (D9 (replicate a (.int .u32 0)) 0 (f.take ((min a a)*1)))) none) none)
def W5:=(Af (@se R)).1
theorem mv:@W5 R=@se R:=(Af _).2
def BH:=Bj N 229 [Jx N] Ars (fun
 | [(.imm c d 1 e b)],[]=>some fun _ k=>W5 N c d e b (Ca k)
 | _,_=>none) fun _ _=>by split;intro R F;dsimp only;rw[mv];kernel_rfl;trivial
def cG (N:Nat) (c:Bool) (a:Nat) (b:LA) (r0:Bool→O R):O R :=
 (cond (c==true) (r0 (cond true (decide ((a:Int)>0)) false)) (r0 false))
def En:=(Af (@cG R)).1
theorem ZO:@En R=@cG R:=(Af _).2
def Aa7 (a:Nat) (b:LA) (F:KF R):Bool→O R:=(fun d=>F (.agg [(.bool d),(.own 100000 0 a)]) [(100000,(bQ 1 b))])
def Nk:=Bj N 212 [] Bg (fun
 | [(.bool c),(.own 100000 0 a)],[(100000,⟨false,false,true,false,1,b,false,none⟩)]=>some fun _ k=>En N c a b (Aa7 a b k)
 | _,_=>none) fun _ _=>by split;intro R F;dsimp only;rw[ZO];kernel_rfl;trivial
def sf (a:LA) (b:Bool) (r0:Bool→Nat→LA→O R):O R :=
 (Ud a fun e=>Aw 1 (a.drop 1) fun f g=>W5 N f g false b fun c d=>En N e c d fun h=>r0 h c d)
def pq:=(Af (@sf R)).1
theorem mw:@pq R=@sf R:=(Af _).2
def Aox:=Bj N 228 [BH N,Nk N] Bg (fun
 | [(.pagg a b)],[]=>some fun _ k=>pq N a b (vd k)
 | _,_=>none) fun _ _=>by split;intro R F;dsimp only;rw[mw];kernel_rfl;trivial
def Mn (N:Nat) (r0:Int→O R) (f:LA) (a:Nat) (b:Bool) (g:LA) (c:Nat) (d:Bool) (k0:Int→O R) (h:Int):O R :=
 (cond (decide (h≥0)) (cond (Ae h a) (As .u32 (f.drop ((h.toNat)*1)) fun q=>cond (Ae h c) (As .u32 (g.drop ((h.toNat)*1)) fun r=>cond (decide (q<r)) (r0 (-1)) (cond (Ae h a) (As .u32 (f.drop ((h.toNat)*1)) fun s=>cond (Ae h c) (As .u32 (g.drop ((h.toNat)*1)) fun t=>cond (decide (s>t)) (r0 1) (k0 (wrap .i64 (h - 1)))) none) none)) none) none) (r0 0))
def E6 (r0:Int→O R) (f:LA) (a:Nat) (b:Bool) (g:LA) (c:Nat) (d:Bool):Nat→Int→O R
 | 0,_=>none
 | n+1,h=>Mn N r0 f a b g c d (E6 r0 f a b g c d n) h
def Tj (r0:Int→O R) (q0:LA→Nat→LA→Nat→Int→O R) (i:LA) (j:Nat) (l b:Bool) (m:LA) (o:Nat) (p d:Bool):O R :=
 (Cp N i j l b fun f a=>Cp N m o p d fun g c=>cond ((a:Int) != (c:Int)) (cond (decide ((a:Int)<(c:Int))) (r0 (-1)) (r0 1)) (q0 f a g c (wrap .i64 ((a:Int) - 1))))
def Fk:=(Af fun N i j l b m o p d r0=>Tj (R:=R) N r0 (fun f a g c=>E6 N r0 f a b g c d N) i j l b m o p d).1
theorem FN (i j l b m o p d r0):(@Fk R N i j l b m o p d r0)=(Tj N r0 (fun f a g c=>E6 N r0 f a b g c d N) i j l b m o p d):=by rw[Fk,(Af _).2]
def QC:N0:=[Jx N]
def jv (F:KF R):=Hh Tryz.f183 xn (QC N) [] N F
def jw (f:LA) (a:Nat) (b:Bool) (g:LA) (c:Nat) (d:Bool) (K:St→O R):=fun h=>K ⟨[(0,(.imm f a 1 false b)),(1,(.imm g c 1 false d)),(5,(iv h))],[]⟩
theorem YB (F:KF R) (f a b g c d):∀ n,jw f a b g c d (Ao (jv N F (pz 5444) []) n)=(E6 N (Mw F) f a b g c d n):=D3 fun n e=>(Bn (Mn N (Mw F) f a b g c d) e:_)
def Qi:=Bj N 183 (QC N) xn (fun
 | [(.imm i j 1 l b),(.imm m o 1 p d)],[]=>some fun _ k=>Fk N i j l b m o p d (Mw k)
 | _,_=>none) fun _ _=>by split;intro R F;exact(Bn (Tj N (Mw F) · _ _ _ _ _ _ _ _) (Ah5 fun f a g c=>(lW ..).trans (YB ..)):_).trans (FN ..).symm;trivial
def E7 (N:Nat) (r0:Int→O R) (b c:Int):O R :=
 (cond (decide (b≥256)) (cond (Ae (wrap .u8 (Int.fdiv b (2 ^ 8))) 256) (r0 (wrap .i64 ((wrap .i64 (c+8))+(wrap .i64 ((UInt8.toNat (List.getD ([0,1,2,2,3,3,3,3,4,4,4,4,4,4,4,4,5,5,5,5,5,5,5,5,5,5,5,5,5,5,5,5,6,6,6,6,6,6,6,6,6,6,6,6,6,6,6,6,6,6,6,6,6,6,6,6,6,6,6,6,6,6,6,6,7,7,7,7,7,7,7,7,7,7,7,7,7,7,7,7,7,7,7,7,7,7,7,7,7,7,7,7,7,7,7,7,7,7,7,7,7,7,7,7,7,7,7,7,7,7,7,7,7,7,7,7,7,7,7,7,7,7,7,7,7,7,7,7,8,8,8,8,8,8,8,8,8,8,8,8,8,8,8,8,8,8,8,8,8,8,8,8,8,8,8,8,8,8,8,8,8,8,8,8,8,8,8,8,8,8,8,8,8,8,8,8,8,8,8,8,8,8,8,8,8,8,8,8,8,8,8,8,8,8,8,8,8,8,8,8,8,8,8,8,8,8,8,8,8,8,8,8,8,8,8,8,8,8,8,8,8,8,8,8,8,8,8,8,8,8,8,8,8,8,8,8,8,8,8,8,8,8,8,8,8,8,8,8,8,8,8,8,8,8,8,8]:Lu) ((wrap .u8 (Int.fdiv b (2 ^ 8))).toNat) 0):Nat):Int))))) none) (cond (Ae (wrap .u8 b) 256) (r0 (wrap .i64 (c+(wrap .i64 ((UInt8.toNat (List.getD ([0,1,2,2,3,3,3,3,4,4,4,4,4,4,4,4,5,5,5,5,5,5,5,5,5,5,5,5,5,5,5,5,6,6,6,6,6,6,6,6,6,6,6,6,6,6,6,6,6,6,6,6,6,6,6,6,6,6,6,6,6,6,6,6,7,7,7,7,7,7,7,7,7,7,7,7,7,7,7,7,7,7,7,7,7,7,7,7,7,7,7,7,7,7,7,7,7,7,7,7,7,7,7,7,7,7,7,7,7,7,7,7,7,7,7,7,7,7,7,7,7,7,7,7,7,7,7,7,8,8,8,8,8,8,8,8,8,8,8,8,8,8,8,8,8,8,8,8,8,8,8,8,8,8,8,8,8,8,8,8,8,8,8,8,8,8,8,8,8,8,8,8,8,8,8,8,8,8,8,8,8,8,8,8,8,8,8,8,8,8,8,8,8,8,8,8,8,8,8,8,8,8,8,8,8,8,8,8,8,8,8,8,8,8,8,8,8,8,8,8,8,8,8,8,8,8,8,8,8,8,8,8,8,8,8,8,8,8,8,8,8,8,8,8,8,8,8,8,8,8,8,8,8,8,8,8]:Lu) ((wrap .u8 b).toNat) 0):Nat):Int))))) none))
def Oi (N:Nat) (r0:Int→O R) (q0:Int→Int→O R) (a:Int):O R :=
 (cond (decide (a≥65536)) (q0 (Int.fdiv a (2 ^ 16)) 16) (q0 a 0))
def Hq:=(Af fun N a r0=>Oi (R:=R) N r0 (E7 N r0) a).1
theorem Zi (a r0):(@Hq R N a r0)=(Oi N r0 (E7 N r0) a):=by rw[Hq,(Af _).2]
def DE:Hints:={ H:=(hK 1 (hJ [0,2] hL hL)) }
def cH (F:KF R):=Hh Tryz.f211 DE [] [] N F
def cI (K:St→O R):=fun b c=>K ⟨[(0,(.int .u32 b)),(2,(iv c))],[]⟩
theorem RE (F:KF R):cI (A0 (cH N F (pz 21) []))=(E7 N (Mw F)):=by kernel_rfl
def FO:=Bj N 211 [] DE (fun
 | [(.int .u32 a)],[]=>some fun _ k=>Hq N a (Mw k)
 | _,_=>none) fun _ _=>by split;intro R F;exact(Bn (Oi N (Mw F) · _) ((jW ..).trans (RE ..)):_).trans (Zi ..).symm;trivial
def Hk (a:Int) (r0:Int→O R):O R :=
 (Hq N a fun b=>r0 (wrap .i64 (32 - b)))
def Cq:=(Af (@Hk R)).1
theorem Ll:@Cq R=@Hk R:=(Af _).2
def Nl:=Bj N 263 [FO N] Bg (fun
 | [(.int .u32 a)],[]=>some fun _ k=>Cq N a (Mw k)
 | _,_=>none) fun _ _=>by split;intro R F;dsimp only;rw[Ll];kernel_rfl;trivial
def DF (N:Nat) (c:Int) (b:LA) (a:Nat) (d e:Bool) (r0:Int→O R):O R :=
 (cond (decide (c<(a:Int))) (cond (Ae c a) (As .u32 (b.drop ((c.toNat)*1)) fun f=>r0 (wrap .u64 f)) none) (r0 0))
def Ly:=(Af (@DF R)).1
theorem FP:@Ly R=@DF R:=(Af _).2
def jx (b:LA) (a:Nat) (d e:Bool) (F:KF R):Int→O R:=(fun g=>F (.int .u64 g) [(100000,(bN 0 [(.imm b a 1 d e)]))])
def oa:=Bj N 277 [] Bg (fun
 | [(.int .i64 c),(.optr 100000 0)],[(100000,⟨false,false,false,false,0,[(.imm b a 1 d e)],false,none⟩)]=>some fun _ k=>Ly N c b a d e (jx b a d e k)
 | _,_=>none) fun _ _=>by split;intro R F;dsimp only;rw[FP];kernel_rfl;trivial
def cJ (b:LA) (c:Nat) (d e:Bool) (f a:Int) (r0:Int→O R):O R :=
 (Ly N (wrap .i64 (f - 1)) b c d e fun g=>Ly N (wrap .i64 (f - 2)) b c d e fun h=>cond (decide (a<0)) none (Ly N (wrap .i64 (f - 3)) b c d e fun i=>cond (decide ((wrap .i64 (32 - a))<0)) none (r0 (Rj .u64 (wrap .u64 ((Rj .u64 (wrap .u64 (g*2 ^ 32)) h)*2 ^ (min (a.toNat) 64))) (Int.fdiv i (2 ^ (min ((wrap .i64 (32 - a)).toNat) 64)))))))
def JP:=(Af (@cJ R)).1
theorem ZP:@JP R=@cJ R:=(Af _).2
def Aft:=Bj N 264 [oa N] Bg (fun
 | [(.imm b c 1 d e),(.int .i64 f),(.int .i64 a)],[]=>some fun _ k=>JP N b c d e f a (Aeq k)
 | _,_=>none) fun _ _=>by split;intro R F;dsimp only;rw[ZP];kernel_rfl;trivial
def W6 (N:Nat) (k0:Int→Int→Int→Int→Int→Int→Int→Int→Bool→O R) (r0:LA→O R) (u c w x y z:Int) (aa:Bool):O R :=
 (cond (c==0) none (cond (c==0) none (k0 c (Int.tmod u c) w x (wrap .u64 (w+(wrap .u64 ((wrap .u64 (Int.tdiv u c))*x)))) y z (wrap .u64 (y+(wrap .u64 ((wrap .u64 (Int.tdiv u c))*z)))) (!aa))))
def Jl (N:Nat) (r0:LA→O R) (k0:Int→Int→Int→Int→Int→Int→Int→Int→Bool→O R) (q1:Int→Int→Int→Int→Int→Int→Bool→O R) (r j s l v t d m:Int) (o:Bool):O R :=
 (cond ((decide (j≥m))==true) (cond (cond true (decide ((wrap .u64 (r - j))≥(wrap .u64 (d+m)))) false) (q1 r j l v d m o) (r0 [(.int .u64 s),(.int .u64 l),(.int .u64 t),(.int .u64 d),(.bool o)])) (r0 [(.int .u64 s),(.int .u64 l),(.int .u64 t),(.int .u64 d),(.bool o)]))
def D8 (r0:LA→O R):Nat→Int→Int→Int→Int→Int→Int→Int→Int→Bool→O R
 | 0,_,_,_,_,_,_,_,_,_=>none
 | n+1,r,j,s,l,v,t,d,m,o=>Jl N r0 (D8 r0 n) (W6 N (D8 r0 n) r0) r j s l v t d m o
def FQ (r0:LA→O R) (q0:Int→Int→Int→Int→Int→Int→Int→Int→Bool→O R) (b:LA) (a:Nat) (p f:Bool) (g:LA) (h:Nat) (q i:Bool):O R :=
 (cond (Ae (wrap .i64 ((a:Int) - 1)) a) (As .u32 (b.drop (((wrap .i64 ((a:Int) - 1)).toNat)*1)) fun ac=>Cq N ac fun ab=>JP N b a false f (a:Int) ab fun ad=>JP N g h false i (a:Int) ab fun ae=>q0 ad ae 0 1 0 0 0 1 false) none)
def DG:=(Af fun N b a p f g h q i r0=>FQ (R:=R) N r0 (D8 N r0 N) b a p f g h q i).1
theorem TP (b a p f g h q i r0):(@DG R N b a p f g h q i r0)=(FQ N r0 (D8 N r0 N) b a p f g h q i):=by rw[DG,(Af _).2]
def ZQ:Hints:={ H:=(hK 7 (hS (hS (hP [4,7,8,9,10,11,12,13,14,15] (hJ [4,7,8,10,11,13,14,15] hL hL)) hL) hL)),modes:=[(3,0)] }
def fj:N0:=[Nl N,Aft N]
def ZR (F:KF R):=Hh Tryz.f247 ZQ (fj N) [] N F
def w8 (K:St→O R):=fun u c w x y z aa=>K ⟨[(4,(op 0)),(7,(.int .u64 u)),(8,(.int .u64 c)),(10,(.int .u64 w)),(11,(.int .u64 x)),(13,(.int .u64 y)),(14,(.int .u64 z)),(15,(.bool aa))],(hq [(bQ 0 [(.int .u64 0),(.int .u64 0),(.int .u64 0),(.int .u64 0),(.bool false)])])⟩
def ZS (K:St→O R):=fun r j s l v t d m o=>K ⟨[(4,(op 0)),(7,(.int .u64 r)),(8,(.int .u64 j)),(9,(.int .u64 s)),(10,(.int .u64 l)),(11,(.int .u64 v)),(12,(.int .u64 t)),(13,(.int .u64 d)),(14,(.int .u64 m)),(15,(.bool o))],(hq [(bQ 0 [(.int .u64 0),(.int .u64 0),(.int .u64 0),(.int .u64 0),(.bool false)])])⟩
theorem jy (Q0) (F:KF R):w8 (A0 (ZR N F (pz 5592321) [Q0]))=(W6 N (ZS Q0) (Da F)):=by kernel_rfl
theorem jz (F:KF R):∀ n,ZS (Ao (ZR N F (pz 349520) []) n)=(D8 N (Da F) n):=D3 fun n e=>(Yq (Jl N (Da F)) e ((jW ..).trans ((jy ..).trans (vO (W6 _ · _) e))):_)
def Aa8:=Bj N 247 (fj N) ZQ (fun
 | [(.imm b a 1 p f),(.imm g h 1 q i)],[]=>some fun _ k=>DG N b a p f g h q i (Da k)
 | _,_=>none) fun _ _=>by split;intro R F;exact(Bn (FQ N (Da F) · _ _ _ _ _ _ _ _) ((lW ..).trans (jz ..)):_).trans (TP ..).symm;trivial
def Je (r0:Nat→Nat→LA→LA→O R) (c:LA) (a:Nat) (d f:Bool) (b:Int) (k0:Int→Int→LA→O R) (i g:Int) (h:LA):O R :=
 (cond (decide (g≥0)) (cond (Ae g a) (As .u32 (c.drop ((g.toNat)*1)) fun j=>cond ((wrap .u64 b)==0) none (cond (Ae g a) (cond ((beq 1 1)&&((ble ((0+((g.toNat)*1))+1) (h.length))&&(!false))) (cond ((wrap .u64 b)==0) none (k0 (Int.tmod (Rj .u64 (wrap .u64 (i*2 ^ 32)) (wrap .u64 j)) (wrap .u64 b)) (wrap .i64 (g - 1)) (h.set (0+((g.toNat)*1)) (.int .u32 (wrap .u32 (wrap .u64 (Int.tdiv (Rj .u64 (wrap .u64 (i*2 ^ 32)) (wrap .u64 j)) (wrap .u64 b)))))))) none) none)) none) (DC N a h fun l=>Bu N i fun m o=>r0 l m h o))
def Ds (r0:Nat→Nat→LA→LA→O R) (c:LA) (a:Nat) (d f:Bool) (b:Int):Nat→Int→Int→LA→O R
 | 0,_,_,_=>none
 | n+1,i,g,h=>Je N r0 c a d f b (Ds r0 c a d f b n) i g h
def Oj (N:Nat) (r0:Nat→Nat→LA→LA→O R) (q0:Int→Int→LA→O R) (c:LA) (a:Nat) (d f:Bool) (b:Int):O R :=
 (cond ((decide (0≤(a:Int)))&&((decide ((a:Int)≤(a:Int)))&&((decide ((a:Int)≤140737488355328))&&(decide (((a:Int)*((4:Nat):Int))≤140737488355328))))) (q0 0 (wrap .i64 ((a:Int) - 1)) (replicate a (.int .u32 0))) none)
def Hr:=(Af fun N c a d f b r0=>Oj (R:=R) N r0 (Ds N r0 c a d f b N) c a d f b).1
theorem Zj (c a d f b r0):(@Hr R N c a d f b r0)=(Oj N r0 (Ds N r0 c a d f b N) c a d f b):=by rw[Hr,(Af _).2]
def DH:Hints:={ H:=(hK 3 (hS (hK 1 (hS (hP [0,1,4,6,7] hL) hL)) hL)),nils:=[(4,1),(5,1)],modes:=[(2,1),(2,1)] }
def FR:N0:=[ff N,Hp N]
def cK (F:KF R):=Hh Tryz.f249 DH (FR N) [] N F
def cL (c:LA) (a:Nat) (d f:Bool) (b:Int) (K:St→O R):=fun i g h=>K ⟨[(0,(.imm c a 1 d f)),(1,(.int .u32 b)),(4,(.own 300000 0 a)),(6,(.int .u64 i)),(7,(iv g))],(hq [(bQ 1 h)])⟩
theorem RF (F:KF R) (c a d f b):∀ n,cL c a d f b (Ao (cK N F (pz 5444) []) n)=(Ds N (lw F) c a d f b n):=D3 fun n e=>(Bn (Je N (lw F) c a d f b) e:_)
def fk:=Bj N 249 (FR N) DH (fun
 | [(.imm c a 1 d f),(.int .u32 b)],[]=>some fun _ k=>Hr N c a d f b (lw k)
 | _,_=>none) fun _ _=>by split;intro R F;exact(Bn (Oj N (lw F) · _ _ _ _ _) ((lW ..).trans (RF ..)):_).trans (Zj ..).symm;trivial
def Tk (N:Nat) (r0:Nat→LA→O R) (c:LA) (a:Nat) (d f:Bool) (b:Int) (k0:Nat→Int→Int→Int→LA→O R) (h:Nat) (j l g:Int) (i:LA):O R :=
 (cond (decide (g<l)) (cond (Ae g a) (As .u32 (c.drop ((g.toNat)*1)) fun m=>cond (decide (b<0)) none (cond (Ae g h) (cond ((beq 1 1)&&((ble ((0+((g.toNat)*1))+1) (i.length))&&(!false))) (k0 h (Int.fdiv (Rj .u64 j (wrap .u64 ((wrap .u64 m)*2 ^ (min (b.toNat) 64)))) (2 ^ 32)) l (wrap .i64 (g+1)) (i.set (0+((g.toNat)*1)) (.int .u32 (wrap .u32 (Rj .u64 j (wrap .u64 ((wrap .u64 m)*2 ^ (min (b.toNat) 64)))))))) none) none)) none) (cond (Ae (a:Int) h) (cond ((beq 1 1)&&((ble ((0+(a*1))+1) (i.length))&&(!false))) (r0 h (i.set (0+(a*1)) (.int .u32 (wrap .u32 j)))) none) none))
def Ix (r0:Nat→LA→O R) (c:LA) (a:Nat) (d f:Bool) (b:Int):Nat→Nat→Int→Int→Int→LA→O R
 | 0,_,_,_,_,_=>none
 | n+1,h,j,l,g,i=>Tk N r0 c a d f b (Ix r0 c a d f b n) h j l g i
def FS (N:Nat) (r0:Nat→LA→O R) (q0:Nat→Int→Int→Int→LA→O R) (c:LA) (a:Nat) (d f:Bool) (b:Int):O R :=
 (cond ((decide (0≤(wrap .i64 ((a:Int)+1))))&&((decide ((wrap .i64 ((a:Int)+1))≤(wrap .i64 ((a:Int)+1))))&&((decide ((wrap .i64 ((a:Int)+1))≤140737488355328))&&(decide (((wrap .i64 ((a:Int)+1))*((4:Nat):Int))≤140737488355328))))) (q0 ((wrap .i64 ((a:Int)+1)).toNat) 0 (a:Int) 0 (replicate ((wrap .i64 ((a:Int)+1)).toNat) (.int .u32 0))) none)
def Vp:=(Af fun N c a d f b r0=>FS (R:=R) N r0 (Ix N r0 c a d f b N) c a d f b).1
theorem TQ (c a d f b r0):(@Vp R N c a d f b r0)=(FS N r0 (Ix N r0 c a d f b N) c a d f b):=by rw[Vp,(Af _).2]
def ZT:Hints:={ H:=(hK 3 (hS (hK 1 (hS (hP [0,1,5,6,13,14,15] hL) hL)) hL)),nils:=[(4,1)],modes:=[(2,1)] }
def w9 (F:KF R):=Hh Tryz.f265 ZT [] [] N F
def w_ (c:LA) (a:Nat) (d f:Bool) (b:Int) (K:St→O R):=fun h j l g i=>K ⟨[(0,(.imm c a 1 d f)),(1,(iv b)),(5,(.own 300000 0 h)),(6,(.int .u64 j)),(13,(.imm c a 1 d f)),(14,(iv l)),(15,(iv g))],(hq [(bQ 1 i)])⟩
theorem kA (F:KF R) (c a d f b):∀ n,w_ c a d f b (Ao (w9 N F (pz 5444) []) n)=(Ix N (Ca F) c a d f b n):=D3 fun n e=>(Bn (Tk N (Ca F) c a d f b) e:_)
def Aa9:=Bj N 265 [] ZT (fun
 | [(.imm c a 1 d f),(.int .i64 b)],[]=>some fun _ k=>Vp N c a d f b (Ca k)
 | _,_=>none) fun _ _=>by split;intro R F;exact(Bn (FS N (Ca F) · _ _ _ _ _) ((lW ..).trans (kA ..)):_).trans (TQ ..).symm;trivial
def Ok (N:Nat) (r0:Int→LA→O R) (b c:Nat) (d j:Int) (f:LA) (a:Nat) (g h:Bool) (k4:Int→Int→Int→LA→O R) (t u o:Int) (r:LA):O R :=
 (cond (decide (o<u)) (cond (Ae o a) (As .u32 (f.drop ((o.toNat)*1)) fun y=>cond (Ae o c) (As .u32 (r.drop (b+((o.toNat)*1))) fun z=>cond (Ae o c) (cond ((beq 1 1)&&((ble ((b+((o.toNat)*1))+1) (r.length))&&(!false))) (k4 (Int.fdiv (wrap .u64 (t+(wrap .u64 ((wrap .u64 z)+(wrap .u64 y))))) (2 ^ 32)) u (wrap .i64 (o+1)) (r.set (b+((o.toNat)*1)) (.int .u32 (wrap .u32 (wrap .u64 (t+(wrap .u64 ((wrap .u64 z)+(wrap .u64 y))))))))) none) none) none) none) (cond (Ae d c) (As .u32 (r.drop (b+((d.toNat)*1))) fun ag=>cond (Ae d c) (cond ((beq 1 1)&&((ble ((b+((d.toNat)*1))+1) (r.length))&&(!false))) (r0 (wrap .u32 (wrap .u64 (j - 1))) (r.set (b+((d.toNat)*1)) (.int .u32 (wrap .u32 (ag+(wrap .u32 t)))))) none) none) none))
def Hs (r0:Int→LA→O R) (b c:Nat) (d j:Int) (f:LA) (a:Nat) (g h:Bool):Nat→Int→Int→Int→LA→O R
 | 0,_,_,_,_=>none
 | n+1,t,u,o,r=>Ok N r0 b c d j f a g h (Hs r0 b c d j f a g h n) t u o r
def Jm (N:Nat) (r0:Int→LA→O R) (b c:Nat) (f:LA) (a:Nat) (g h:Bool) (d j:Int) (k3:Int→Int→Int→LA→O R) (q4:Int→Int→Int→LA→O R) (s v p:Int) (q:LA):O R :=
 (cond (decide (p<v)) (cond (Ae p a) (As .u32 (f.drop ((p.toNat)*1)) fun w=>cond (Ae p c) (As .u32 (q.drop (b+((p.toNat)*1))) fun aa=>cond (Ae p c) (cond ((beq 1 1)&&((ble ((b+((p.toNat)*1))+1) (q.length))&&(!false))) (k3 (wrap .u64 ((Int.fdiv (wrap .u64 ((wrap .u64 (j*(wrap .u64 w)))+s)) (2 ^ 32))+(Int.fdiv (wrap .u64 ((wrap .u64 aa) - (wrap .u64 (wrap .u32 (wrap .u64 ((wrap .u64 (j*(wrap .u64 w)))+s)))))) (2 ^ 63)))) v (wrap .i64 (p+1)) (q.set (b+((p.toNat)*1)) (.int .u32 (wrap .u32 (wrap .u64 ((wrap .u64 aa) - (wrap .u64 (wrap .u32 (wrap .u64 ((wrap .u64 (j*(wrap .u64 w)))+s)))))))))) none) none) none) none) (cond (Ae d c) (As .u32 (q.drop (b+((d.toNat)*1))) fun x=>cond (Ae d c) (cond ((beq 1 1)&&((ble ((b+((d.toNat)*1))+1) (q.length))&&(!false))) (cond ((Int.fdiv (wrap .u64 ((wrap .u64 x) - s)) (2 ^ 63))==0) (r0 (wrap .u32 j) (q.set (b+((d.toNat)*1)) (.int .u32 (wrap .u32 (wrap .u64 ((wrap .u64 x) - s)))))) (q4 0 (a:Int) 0 (q.set (b+((d.toNat)*1)) (.int .u32 (wrap .u32 (wrap .u64 ((wrap .u64 x) - s))))))) none) none) none))
def F0 (r0:Int→LA→O R) (b c:Nat) (f:LA) (a:Nat) (g h:Bool) (d j:Int):Nat→Int→Int→Int→LA→O R
 | 0,_,_,_,_=>none
 | n+1,s,v,p,q=>Jm N r0 b c f a g h d j (F0 r0 b c f a g h d j n) (Hs N r0 b c d j f a g h N) s v p q
def Vq (N:Nat) (r0:Int→LA→O R) (b c:Nat) (f:LA) (a:Nat) (g h:Bool) (d:Int) (i:LA) (q3:Int→Int→Int→Int→LA→O R) (j:Int):O R :=
 (q3 j 0 (a:Int) 0 i)
def Et (r0:Int→LA→O R) (b c:Nat) (f:LA) (a:Nat) (g h:Bool) (d:Int) (i:LA) (j:Int):O R:=(Vq N r0 b c f a g h d i (fun j=>F0 N r0 b c f a g h d j N) j)
def Vr (N:Nat) (k0:Int→Int→Int→O R) (r0:Int→LA→O R) (b c:Nat) (f:LA) (a:Nat) (g h:Bool) (d l m:Int) (i:LA) (q2:Int→O R):O R :=
 (cond (Ae (wrap .i64 (d - 1)) a) (As .u32 (f.drop (((wrap .i64 (d - 1)).toNat)*1)) fun ab=>cond ((Int.fdiv (wrap .u64 (m+(wrap .u64 ab))) (2 ^ 32)) != 0) (q2 (wrap .u64 (l - 1))) (k0 d (wrap .u64 (l - 1)) (wrap .u64 (m+(wrap .u64 ab))))) none)
def Lm (k0:Int→Int→Int→O R) (r0:Int→LA→O R) (b c:Nat) (f:LA) (a:Nat) (g h:Bool) (d l m:Int) (i:LA):O R:=(Vr N k0 r0 b c f a g h d l m i (Et N r0 b c f a g h d i))
def Vs (N:Nat) (r0:Int→LA→O R) (b c:Nat) (f:LA) (a:Nat) (g h:Bool) (i:LA) (k0:Int→Int→Int→O R) (q1:Int→Int→Int→O R) (q2:Int→Int→O R) (d l m:Int):O R :=
 (cond (((Int.fdiv l (2 ^ 32)) != 0)==false) (cond (Ae (wrap .i64 (d - 2)) a) (As .u32 (f.drop (((wrap .i64 (d - 2)).toNat)*1)) fun ah=>cond (Ae (wrap .i64 (d - 2)) c) (As .u32 (i.drop (b+(((wrap .i64 (d - 2)).toNat)*1))) fun ai=>cond (cond false true (decide ((wrap .u64 (l*(wrap .u64 ah)))>(Rj .u64 (wrap .u64 (m*2 ^ 32)) (wrap .u64 ai))))) (q1 d l m) (q2 d l)) none) none) (q1 d l m))
def Eu (r0:Int→LA→O R) (b c:Nat) (f:LA) (a:Nat) (g h:Bool) (i:LA):Nat→Int→Int→Int→O R
 | 0,_,_,_=>none
 | n+1,d,l,m=>Vs N r0 b c f a g h i (Eu r0 b c f a g h i n) (fun d l m=>Lm N (Eu r0 b c f a g h i n) r0 b c f a g h d l m i) (fun d=>Et N r0 b c f a g h d i) d l m
def W7 (N:Nat) (r0:Int→LA→O R) (q0:Int→Int→Int→O R) (b c:Nat) (f:LA) (a:Nat) (g h:Bool) (i:LA):O R :=
 (cond (Ae (a:Int) c) (As .u32 (i.drop (b+(a*1))) fun ac=>cond (Ae (wrap .i64 ((a:Int) - 1)) c) (As .u32 (i.drop (b+(((wrap .i64 ((a:Int) - 1)).toNat)*1))) fun ad=>cond (Ae (wrap .i64 ((a:Int) - 1)) a) (As .u32 (f.drop (((wrap .i64 ((a:Int) - 1)).toNat)*1)) fun ae=>cond ((wrap .u64 ae)==0) none (cond (Ae (wrap .i64 ((a:Int) - 1)) a) (As .u32 (f.drop (((wrap .i64 ((a:Int) - 1)).toNat)*1)) fun af=>cond ((wrap .u64 af)==0) none (q0 (a:Int) (wrap .u64 (Int.tdiv (Rj .u64 (wrap .u64 ((wrap .u64 ac)*2 ^ 32)) (wrap .u64 ad)) (wrap .u64 ae))) (Int.tmod (Rj .u64 (wrap .u64 ((wrap .u64 ac)*2 ^ 32)) (wrap .u64 ad)) (wrap .u64 af)))) none)) none) none) none)
def Ol:=(Af fun N b c f a g h i r0=>W7 (R:=R) N r0 (Eu N r0 b c f a g h i N) b c f a g h i).1
theorem JQ (b c f a g h i r0):(@Ol R N b c f a g h i r0)=(W7 N r0 (Eu N r0 b c f a g h i N) b c f a g h i):=by rw[Ol,(Af _).2]
def QD:Hints:={ H:=(hK 4 (hJ [0,1,5,7] (hS (hP [0,1,5,7,8] (hJ [0,1,5,7,8] hL hL)) hL) (hK 1 (hS (hK 1 (hS (hP [0,1,5,7,9,84,85,86] hL) hL)) (hK 4 (hS (hK 1 (hS (hP [0,5,7,9,134,135,136] hL) hL)) hL)))))) }
def Ln (F:KF R):=Hh Tryz.f266 QD [] [100000] N F
def B0 (F:KF R):Int→LA→O R:=(fun aj ak=>F (.int .u32 aj) [(100000,(bQ 1 ak))])
def oc (b c:Nat) (d j:Int) (f:LA) (a:Nat) (g h:Bool) (K:St→O R):=fun t u o r=>K ⟨[(0,(.own 100000 b c)),(5,(iv d)),(7,(.int .u64 j)),(9,(.int .u64 t)),(134,(.imm f a 1 g h)),(135,(iv u)),(136,(iv o))],[(100000,(bQ 1 r))]⟩
def od (b c:Nat) (f:LA) (a:Nat) (g h:Bool) (d j:Int) (K:St→O R):=fun s v p q=>K ⟨[(0,(.own 100000 b c)),(1,(.imm f a 1 g h)),(5,(iv d)),(7,(.int .u64 j)),(9,(.int .u64 s)),(84,(.imm f a 1 g h)),(85,(iv v)),(86,(iv p))],[(100000,(bQ 1 q))]⟩
def oe (b c:Nat) (f:LA) (a:Nat) (g h:Bool) (d:Int) (i:LA) (K:St→O R):=fun j=>K ⟨[(0,(.own 100000 b c)),(1,(.imm f a 1 g h)),(5,(iv d)),(7,(.int .u64 j))],[(100000,(bQ 1 i))]⟩
def oh (b c:Nat) (f:LA) (a:Nat) (g h:Bool) (d l m:Int) (i:LA) (K:St→O R):=K ⟨[(0,(.own 100000 b c)),(1,(.imm f a 1 g h)),(5,(iv d)),(7,(.int .u64 l)),(8,(.int .u64 m))],[(100000,(bQ 1 i))]⟩
def Yx (b c:Nat) (f:LA) (a:Nat) (g h:Bool) (i:LA) (K:St→O R):=fun d l m=>K ⟨[(0,(.own 100000 b c)),(1,(.imm f a 1 g h)),(5,(iv d)),(7,(.int .u64 l)),(8,(.int .u64 m))],[(100000,(bQ 1 i))]⟩
theorem cM (F:KF R) (b c d j f a g h):∀ n,oc b c d j f a g h (Ao (Ln N F (pz 357913924) []) n)=(Hs N (B0 F) b c d j f a g h n):=D3 fun n e=>(Bn (Ok N (B0 F) b c d j f a g h) e:_)
theorem cN (F:KF R) (b c f a g h d j):∀ n,od b c f a g h d j (Ao (Ln N F (pz 349508) []) n)=(F0 N (B0 F) b c f a g h d j n):=D3 fun n e=>(Yq (Jm N (B0 F) b c f a g h d j) e ((lW ..).trans (cM ..)):_)
theorem DI (F:KF R) (b c f a g h d i):oe b c f a g h d i (A0 (Ln N F (pz 1365) []))=(Et N (B0 F) b c f a g h d i):=(Bn (Vq N (B0 F) b c f a g h d i) (Ai5 fun j=>(lW ..).trans (cN ..)):_)
theorem cO (Q0) (F:KF R) (b c f a g h d l m i):oh b c f a g h d l m i (A0 (Ln N F (pz 87297) [Q0]))=(Lm N (Yx b c f a g h i Q0) (B0 F) b c f a g h d l m i):=(Bn (Vr N (Yx b c f a g h i Q0) (B0 F) b c f a g h d l m i) ((jW ..).trans (DI ..)):_)
theorem cP (F:KF R) (b c f a g h i):∀ n,Yx b c f a g h i (Ao (Ln N F (pz 5456) []) n)=(Eu N (B0 F) b c f a g h i n):=D3 fun n e=>(Axl (Vs N (B0 F) b c f a g h i) e (Avo fun d l m=>(jW ..).trans ((cO ..).trans (vO (Lm _ · _ _ _ _ _ _ _ _ _ _ _) e))) (Ai5 fun d=>(jW ..).trans (DI ..)):_)
def sh:=Bj N 266 [] QD (fun
 | [(.own 100000 b c),(.imm f a 1 g h)],[(100000,⟨false,false,true,false,1,i,false,none⟩)]=>some fun _ k=>Ol N b c f a g h i (B0 k)
 | _,_=>none) fun _ _=>by split;intro R F;exact(Bn (W7 N (B0 F) · _ _ _ _ _ _ _) ((lW ..).trans (cP ..)):_).trans (JQ ..).symm;trivial
def H6 (r0:Nat→Bool→LA→O R) (b:Bool) (k0:LA→Nat→Int→Nat→LA→Nat→Int→Int→LA→O R) (o:LA) (i:Nat) (f:Int) (h:Nat) (p:LA) (q:Nat) (r c:Int) (g:LA):O R :=
 (cond (decide (c<r)) (cond (Ae c q) (As .u32 (p.drop ((c.toNat)*1)) fun s=>cond (decide ((wrap .i64 (c+1))<(i:Int))) (cond (Ae (wrap .i64 (c+1)) i) (As .u32 (o.drop (((wrap .i64 (c+1)).toNat)*1)) fun u=>cond (decide (f<0)) none (cond (Ae c h) (cond ((beq 1 1)&&((ble ((0+((c.toNat)*1))+1) (g.length))&&(!false))) (k0 o i f h p q r (wrap .i64 (c+1)) (g.set (0+((c.toNat)*1)) (.int .u32 (wrap .u32 (Int.fdiv (Rj .u64 (wrap .u64 s) (wrap .u64 ((wrap .u64 u)*2 ^ 32))) (2 ^ (min (f.toNat) 64))))))) none) none)) none) (cond (decide (f<0)) none (cond (Ae c h) (cond ((beq 1 1)&&((ble ((0+((c.toNat)*1))+1) (g.length))&&(!false))) (k0 o i f h p q r (wrap .i64 (c+1)) (g.set (0+((c.toNat)*1)) (.int .u32 (wrap .u32 (Int.fdiv (wrap .u64 s) (2 ^ (min (f.toNat) 64))))))) none) none))) none) (DC N h g fun v=>r0 v true g))
def C6 (r0:Nat→Bool→LA→O R) (b:Bool):Nat→LA→Nat→Int→Nat→LA→Nat→Int→Int→LA→O R
 | 0,_,_,_,_,_,_,_,_,_=>none
 | n+1,o,i,f,h,p,q,r,c,g=>H6 N r0 b (C6 r0 b n) o i f h p q r c g
def Nm (r0:Nat→Bool→LA→O R) (q0:LA→Nat→Int→Nat→LA→Nat→Int→Int→LA→O R) (j:LA) (l:Nat) (m b:Bool) (a:Int):O R :=
 (cond (decide (a<0)) (r0 0 false []) (Cp N j l m b fun t d=>cond (decide ((wrap .i64 (Int.tdiv a 32))≥(d:Int))) (r0 0 true []) (cond ((decide (0≤(wrap .i64 (Int.tdiv a 32))))&&((decide ((wrap .i64 (Int.tdiv a 32))≤(d:Int)))&&((decide ((d:Int)≤(d:Int)))&&(decide ((d:Int)≤(d:Int)))))) (cond ((decide (0≤(((d - ((wrap .i64 (Int.tdiv a 32)).toNat)):Nat):Int)))&&((decide ((((d - ((wrap .i64 (Int.tdiv a 32)).toNat)):Nat):Int)≤(((d - ((wrap .i64 (Int.tdiv a 32)).toNat)):Nat):Int)))&&((decide ((((d - ((wrap .i64 (Int.tdiv a 32)).toNat)):Nat):Int)≤140737488355328))&&(decide (((((d - ((wrap .i64 (Int.tdiv a 32)).toNat)):Nat):Int)*((4:Nat):Int))≤140737488355328))))) (q0 ((t.drop (((wrap .i64 (Int.tdiv a 32)).toNat)*1)).take ((d - ((wrap .i64 (Int.tdiv a 32)).toNat))*1)) (d - ((wrap .i64 (Int.tdiv a 32)).toNat)) (Int.tmod a 32) (d - ((wrap .i64 (Int.tdiv a 32)).toNat)) ((t.drop (((wrap .i64 (Int.tdiv a 32)).toNat)*1)).take ((d - ((wrap .i64 (Int.tdiv a 32)).toNat))*1)) (d - ((wrap .i64 (Int.tdiv a 32)).toNat)) (((d - ((wrap .i64 (Int.tdiv a 32)).toNat)):Nat):Int) 0 (replicate (d - ((wrap .i64 (Int.tdiv a 32)).toNat)) (.int .u32 0))) none) none)))
def Ps:=(Af fun N j l m b a r0=>Nm (R:=R) N r0 (C6 N r0 b N) j l m b a).1
theorem Tl (j l m b a r0):(@Ps R N j l m b a r0)=(Nm N r0 (C6 N r0 b N) j l m b a):=by rw[Ps,(Af _).2]
def JR:Hints:={ H:=(hK 7 (hS (hK 1 (hS (hP [0,6,7,29,30,31] hL) hL)) hL)),nils:=[(4,1)],modes:=[(2,1),(0,0)] }
def Gb:=At6 (Jx N) (ff N) (Eq.refl 203)
def QE:N0:=[Gb N]
def kC (F:KF R):=Hh Tryz.f267 JR (QE N) [] N F
def kD (b:Bool) (K:St→O R):=fun o i f h p q r c g=>K ⟨[(0,(.imm o i 1 false b)),(6,(iv f)),(7,(.own 300000 0 h)),(29,(.imm p q 1 false b)),(30,(iv r)),(31,(iv c))],(hq [(bQ 1 g)])⟩
theorem YC (F:KF R) (b):∀ n,kD b (Ao (kC N F (pz 1398084) []) n)=(C6 N (IG F) b n):=D3 fun n e=>(Bn (H6 N (IG F) b) e:_)
def oi:=Bj N 267 (QE N) JR (fun
 | [(.imm j l 1 m b),(.int .i64 a)],[]=>some fun _ k=>Ps N j l m b a (IG k)
 | _,_=>none) fun _ _=>by split;intro R F;exact(Bn (Nm N (IG F) · _ _ _ _ _) ((lW ..).trans (YC ..)):_).trans (Tl ..).symm;trivial
def Mo (r0:Nat→Nat→LA→LA→O R) (c:Int) (a b:Nat) (d:LA) (k0:Nat→Int→Int→Int→Int→LA→LA→O R) (q:Nat) (h g t f:Int) (j u:LA):O R :=
 (cond (decide (f<t)) (cond ((decide (0≤(wrap .i64 ((wrap .i64 (g - 1)) - f))))&&((decide ((wrap .i64 ((wrap .i64 (g - 1)) - f))≤(wrap .i64 ((wrap .i64 ((wrap .i64 ((wrap .i64 (g - 1)) - f))+h))+1))))&&((decide ((wrap .i64 ((wrap .i64 ((wrap .i64 ((wrap .i64 (g - 1)) - f))+h))+1))≤(b:Int)))&&(decide ((b:Int)≤(b:Int)))))) (Ol N (0+(((wrap .i64 ((wrap .i64 (g - 1)) - f)).toNat)*1)) (((wrap .i64 ((wrap .i64 ((wrap .i64 ((wrap .i64 (g - 1)) - f))+h))+1)).toNat) - ((wrap .i64 ((wrap .i64 (g - 1)) - f)).toNat)) (d.take (a*1)) a false true u fun w x=>cond (Ae (wrap .i64 ((wrap .i64 (g - 1)) - f)) q) (cond ((beq 1 1)&&((ble ((0+(((wrap .i64 ((wrap .i64 (g - 1)) - f)).toNat)*1))+1) (j.length))&&(!false))) (k0 q h g t (wrap .i64 (f+1)) (j.set (0+(((wrap .i64 ((wrap .i64 (g - 1)) - f)).toNat)*1)) (.int .u32 w)) x) none) none) none) (cond ((decide ((0:Int)≤(0:Int)))&&((decide (0≤h))&&((decide (h≤(b:Int)))&&(decide ((b:Int)≤(b:Int)))))) (Ps N (u.take ((h.toNat)*1)) (h.toNat) false true c fun y ad z=>DC N q j fun aa=>r0 aa y j z) none))
def D0 (r0:Nat→Nat→LA→LA→O R) (c:Int) (a b:Nat) (d:LA):Nat→Nat→Int→Int→Int→Int→LA→LA→O R
 | 0,_,_,_,_,_,_,_=>none
 | n+1,q,h,g,t,f,j,u=>Mo N r0 c a b d (D0 r0 c a b d n) q h g t f j u
def Tm (r0:Nat→Nat→LA→LA→O R) (q0:Int→Nat→LA→Nat→Int→Int→Int→Int→LA→LA→O R) (l:LA) (m:Nat) (r o:Bool) (i:LA) (a:Nat) (s p:Bool):O R :=
 (cond (Ae (wrap .i64 ((a:Int) - 1)) a) (As .u32 (i.drop (((wrap .i64 ((a:Int) - 1)).toNat)*1)) fun ab=>Cq N ab fun c=>Vp N i a false p c fun v d=>cond ((decide ((0:Int)≤(0:Int)))&&((decide (0≤(a:Int)))&&((decide ((a:Int)≤(v:Int)))&&(decide ((v:Int)≤(v:Int)))))) (Vp N l m false o c fun b ac=>cond ((decide (0≤(wrap .i64 ((b:Int) - (a:Int)))))&&((decide ((wrap .i64 ((b:Int) - (a:Int)))≤(wrap .i64 ((b:Int) - (a:Int)))))&&((decide ((wrap .i64 ((b:Int) - (a:Int)))≤140737488355328))&&(decide (((wrap .i64 ((b:Int) - (a:Int)))*((4:Nat):Int))≤140737488355328))))) (q0 c b d ((wrap .i64 ((b:Int) - (a:Int))).toNat) (a:Int) (wrap .i64 ((b:Int) - (a:Int))) (wrap .i64 ((b:Int) - (a:Int))) 0 (replicate ((wrap .i64 ((b:Int) - (a:Int))).toNat) (.int .u32 0)) ac) none) none) none)
def Lz:=(Af fun N l m r o i a s p r0=>Tm (R:=R) N r0 (fun c b d=>D0 N r0 c a b d N) l m r o i a s p).1
theorem FT (l m r o i a s p r0):(@Lz R N l m r o i a s p r0)=(Tm N r0 (fun c b d=>D0 N r0 c a b d N) l m r o i a s p):=by rw[Lz,(Af _).2]
def JT:Hints:={ H:=(hK 7 (hS (hK 1 (hS (hP [4,6,7,8,9,10,35,36] hL) hL)) hL)),nils:=[(4,1),(5,1)],modes:=[(2,1),(2,1)] }
def QF:N0:=[Nl N,Aa9 N,sh N,oi N,ff N]
def kE (F:KF R):=Hh Tryz.f250 JT (QF N) [] N F
def kF (c:Int) (a b:Nat) (d:LA) (K:St→O R):=fun q h g t f j u=>K ⟨[(4,(.own 300000 0 q)),(6,(iv h)),(7,(iv c)),(8,(.own 300001 0 a)),(9,(.own 300002 0 b)),(10,(iv g)),(35,(iv t)),(36,(iv f))],(hq [(bQ 1 j),(bQ 1 d),(bQ 1 u)])⟩
theorem YD (F:KF R) (c a b d):∀ n,kF c a b d (Ao (kE N F (pz 1398084) []) n)=(D0 N (lw F) c a b d n):=D3 fun n e=>(Bn (Mo N (lw F) c a b d) e:_)
def oq:=Bj N 250 (QF N) JT (fun
 | [(.imm l m 1 r o),(.imm i a 1 s p)],[]=>some fun _ k=>Lz N l m r o i a s p (lw k)
 | _,_=>none) fun _ _=>by split;intro R F;exact(Bn (Tm N (lw F) · _ _ _ _ _ _ _ _) (Avo fun c b d=>(lW ..).trans (YD ..)):_).trans (FT ..).symm;trivial
def cQ (h:LA) (i:Nat) (j a:Bool) (l:LA) (m:Nat) (n b:Bool) (r0:Nat→Nat→Bool→LA→LA→O R):O R :=
 (Cp N h i j a fun e c=>Cp N l m n b fun f d=>cond ((d:Int)==0) (r0 0 0 false [] []) (Fk N e c false a f d false b fun p=>cond (decide (p<0)) (W5 N e c false a fun q r=>r0 0 q true [] r) (cond (decide ((c:Int)≤2)) (Th N e c false a fun o=>Th N f d false b fun g=>cond (g==0) none (Bu N (wrap .u64 (Int.tdiv o g)) fun s t=>cond (g==0) none (Bu N (Int.tmod o g) fun u v=>r0 s u true t v))) (cond ((d:Int)==1) (cond (Ae 0 d) (As .u32 f fun w=>Hr N e c false a w fun x y z aa=>r0 x y true z aa) none) (Lz N e c false a f d false b fun ab ac ad ae=>r0 ab ac true ad ae)))))
def E8:=(Af (@cQ R)).1
theorem ZU:@E8 R=@cQ R:=(Af _).2
def TR:=Bj N 231 [Jx N,Qi N,BH N,ju N,Hp N,fk N,oq N] { H:=hL,nils:=[(4,1),(5,1)],modes:=[(2,1),(2,1),(0,0)] } (fun
 | [(.imm h i 1 j a),(.imm l m 1 n b)],[]=>some fun _ k=>E8 N h i j a l m n b (lp k)
 | _,_=>none) fun _ _=>by split;intro R F;dsimp only;rw[ZU];kernel_rfl;trivial
def NM (N:Nat) (k1:Nat→Int→Int→LA→O R) (r0:Nat→LA→O R) (f:LA) (a:Nat) (c:Bool) (i:Nat) (h l:Int) (g:LA) (b:Nat) (d:Bool) (j:Int) (k2:Int→Int→Int→LA→O R) (w x m:Int) (o:LA):O R :=
 (cond (decide (m<x)) (cond (Ae m a) (As .u32 (f.drop ((m.toNat)*1)) fun y=>cond (Ae (wrap .i64 (h+m)) i) (As .u32 (o.drop (0+(((wrap .i64 (h+m)).toNat)*1))) fun z=>cond (Ae (wrap .i64 (h+m)) i) (cond ((beq 1 1)&&((ble ((0+(((wrap .i64 (h+m)).toNat)*1))+1) (o.length))&&(!false))) (k2 (Int.fdiv (wrap .u64 (w+(wrap .u64 ((wrap .u64 ((wrap .u64 l)*(wrap .u64 y)))+(wrap .u64 z))))) (2 ^ 32)) x (wrap .i64 (m+1)) (o.set (0+(((wrap .i64 (h+m)).toNat)*1)) (.int .u32 (wrap .u32 (wrap .u64 (w+(wrap .u64 ((wrap .u64 ((wrap .u64 l)*(wrap .u64 y)))+(wrap .u64 z))))))))) none) none) none) none) (cond (Ae (wrap .i64 (h+(a:Int))) i) (cond ((beq 1 1)&&((ble ((0+(((wrap .i64 (h+(a:Int))).toNat)*1))+1) (o.length))&&(!false))) (k1 i j (wrap .i64 (h+1)) (o.set (0+(((wrap .i64 (h+(a:Int))).toNat)*1)) (.int .u32 (wrap .u32 w)))) none) none))
def Vt (k1:Nat→Int→Int→LA→O R) (r0:Nat→LA→O R) (f:LA) (a:Nat) (c:Bool) (i:Nat) (h l:Int) (g:LA) (b:Nat) (d:Bool) (j:Int):Nat→Int→Int→Int→LA→O R
 | 0,_,_,_,_=>none
 | n+1,w,x,m,o=>NM N k1 r0 f a c i h l g b d j (Vt k1 r0 f a c i h l g b d j n) w x m o
def DJ (r0:Nat→LA→O R) (f:LA) (a:Nat) (c:Bool) (g:LA) (b:Nat) (d:Bool) (k1:Nat→Int→Int→LA→O R) (q2:Nat→Int→Int→Int→Int→Int→Int→LA→O R) (i:Nat) (j h:Int) (p:LA):O R :=
 (cond (decide (h<j)) (cond (Ae h b) (As .u32 (g.drop ((h.toNat)*1)) fun l=>cond (l==0) (k1 i j (wrap .i64 (h+1)) p) (q2 i h l j 0 (a:Int) 0 p)) none) (DC N i p fun aa=>r0 aa p))
def Om (r0:Nat→LA→O R) (f:LA) (a:Nat) (c:Bool) (g:LA) (b:Nat) (d:Bool):Nat→Nat→Int→Int→LA→O R
 | 0,_,_,_,_=>none
 | n+1,i,j,h,p=>DJ N r0 f a c g b d (Om r0 f a c g b d n) (fun i h l j=>Vt N (Om r0 f a c g b d n) r0 f a c i h l g b d j N) i j h p
def cR (N:Nat) (r0:Nat→LA→O R) (g:LA) (b:Nat) (d:Bool) (f:LA) (a:Nat) (c:Bool) (q1:Nat→Int→Int→LA→O R):O R :=
 (cond ((decide (0≤(wrap .i64 ((b:Int)+(a:Int)))))&&((decide ((wrap .i64 ((b:Int)+(a:Int)))≤(wrap .i64 ((b:Int)+(a:Int)))))&&((decide ((wrap .i64 ((b:Int)+(a:Int)))≤140737488355328))&&(decide (((wrap .i64 ((b:Int)+(a:Int)))*((4:Nat):Int))≤140737488355328))))) (q1 ((wrap .i64 ((b:Int)+(a:Int))).toNat) (b:Int) 0 (replicate ((wrap .i64 ((b:Int)+(a:Int))).toNat) (.int .u32 0))) none)
def WT (r0:Nat→LA→O R) (g:LA) (b:Nat) (d:Bool) (f:LA) (a:Nat) (c:Bool):O R:=(cR N r0 g b d f a c (Om N r0 f a c g b d N))
def WU (r0:Nat→LA→O R) (q0:LA→Nat→LA→Nat→O R) (q:LA) (r:Nat) (s d:Bool) (t:LA) (u:Nat) (v c:Bool):O R :=
 (Cp N q r s d fun g b=>Cp N t u v c fun f a=>cond (((b:Int)==0)==false) (cond (cond false true ((a:Int)==0)) (r0 0 []) (q0 g b f a)) (r0 0 []))
def cS:=(Af fun N q r s d t u v c r0=>WU (R:=R) N r0 (fun g b f a=>WT N r0 g b d f a c) q r s d t u v c).1
theorem NN (q r s d t u v c r0):(@cS R N q r s d t u v c r0)=(WU N r0 (fun g b f a=>WT N r0 g b d f a c) q r s d t u v c):=by rw[cS,(Af _).2]
def yM:Hints:={ H:=(hK 2 (hJ [0,1] hL (hK 1 (hS (hK 1 (hS (hP [1,5,29,30,31] (hK 2 (hS (hS (hK 3 (hS (hK 1 (hS (hP [1,5,6,7,8,29,30,31,38,39,40] hL) hL)) hL)) hL) hL))) hL)) hL)))),nils:=[(4,1)],modes:=[(2,1)] }
def Afu:N0:=[Gb N]
def kG (F:KF R):=Hh Tryz.f262 yM (Afu N) [] N F
def Aoy (f:LA) (a:Nat) (c:Bool) (i:Nat) (h l:Int) (g:LA) (b:Nat) (d:Bool) (j:Int) (K:St→O R):=fun w x m o=>K ⟨[(1,(.imm f a 1 false c)),(5,(.own 300000 0 i)),(6,(iv h)),(7,(.int .u32 l)),(8,(.int .u64 w)),(29,(.imm g b 1 false d)),(30,(iv j)),(31,(iv h)),(38,(.imm f a 1 false c)),(39,(iv x)),(40,(iv m))],(hq [(bQ 1 o)])⟩
def kH (f:LA) (a:Nat) (c:Bool) (g:LA) (b:Nat) (d:Bool) (K:St→O R):=fun i j h p=>K ⟨[(1,(.imm f a 1 false c)),(5,(.own 300000 0 i)),(29,(.imm g b 1 false d)),(30,(iv j)),(31,(iv h))],(hq [(bQ 1 p)])⟩
def Aoz (g:LA) (b:Nat) (d:Bool) (f:LA) (a:Nat) (c:Bool) (K:St→O R):=K ⟨[(0,(.imm g b 1 false d)),(1,(.imm f a 1 false c))],[]⟩
theorem Aba (Q1) (F:KF R) (f a c i h l g b d j):∀ n,Aoy f a c i h l g b d j (Ao (kG N F (pz 91553596740) [Q1]) n)=(Vt N (kH f a c g b d Q1) (Ca F) f a c i h l g b d j n):=D3 fun n e=>(Bn (NM N (kH f a c g b d Q1) (Ca F) f a c i h l g b d j) e:_)
theorem Abb (F:KF R) (f a c g b d):∀ n,kH f a c g b d (Ao (kG N F (pz 21828) []) n)=(Om N (Ca F) f a c g b d n):=D3 fun n e=>(Yq (DJ N (Ca F) f a c g b d) e (Ah5 fun i h l j=>(lW ..).trans ((Aba ..).trans (vO (Vt _ · _ _ _ _ _ _ _ _ _ _ _ _) e))):_)
theorem Abc (F:KF R) (g b d f a c):Aoz g b d f a c (A0 (kG N F (pz 85) []))=(WT N (Ca F) g b d f a c):=(Bn (cR N (Ca F) g b d f a c) ((lW ..).trans (Abb ..)):_)
def Afv:=Bj N 262 (Afu N) yM (fun
 | [(.imm q r 1 s d),(.imm t u 1 v c)],[]=>some fun _ k=>cS N q r s d t u v c (Ca k)
 | _,_=>none) fun _ _=>by split;intro R F;exact(Bn (WU N (Ca F) · _ _ _ _ _ _ _ _) (Ah5 fun g b f a=>(jW ..).trans (Abc ..)):_).trans (NN ..).symm;trivial
def DK (r0:Nat→Bool→LA→O R) (f:LA) (d:Nat) (b:Bool) (a:Nat) (g:LA) (c:Bool) (k0:Int→Int→Int→LA→O R) (j s h:Int) (i:LA):O R :=
 (cond (decide (h<s)) (cond (Ae h a) (As .u32 (g.drop ((h.toNat)*1)) fun t=>cond (decide (h<(d:Int))) (cond (Ae h d) (As .u32 (f.drop ((h.toNat)*1)) fun u=>cond (Ae h a) (cond ((beq 1 1)&&((ble ((0+((h.toNat)*1))+1) (i.length))&&(!false))) (k0 (Int.fdiv (wrap .u64 ((wrap .u64 ((wrap .u64 t) - j)) - (wrap .u64 u))) (2 ^ 63)) s (wrap .i64 (h+1)) (i.set (0+((h.toNat)*1)) (.int .u32 (wrap .u32 (wrap .u64 ((wrap .u64 ((wrap .u64 t) - j)) - (wrap .u64 u))))))) none) none) none) (cond (Ae h a) (cond ((beq 1 1)&&((ble ((0+((h.toNat)*1))+1) (i.length))&&(!false))) (k0 (Int.fdiv (wrap .u64 ((wrap .u64 t) - j)) (2 ^ 63)) s (wrap .i64 (h+1)) (i.set (0+((h.toNat)*1)) (.int .u32 (wrap .u32 (wrap .u64 ((wrap .u64 t) - j)))))) none) none)) none) (DC N a i fun v=>r0 v true i))
def Rq (r0:Nat→Bool→LA→O R) (f:LA) (d:Nat) (b:Bool) (a:Nat) (g:LA) (c:Bool):Nat→Int→Int→Int→LA→O R
 | 0,_,_,_,_=>none
 | n+1,j,s,h,i=>DK N r0 f d b a g c (Rq r0 f d b a g c n) j s h i
def fl (r0:Nat→Bool→LA→O R) (q0:LA→Nat→Nat→LA→Int→Int→Int→LA→O R) (l:LA) (m:Nat) (o c:Bool) (p:LA) (q:Nat) (r b:Bool):O R :=
 (Cp N l m o c fun g a=>Cp N p q r b fun f d=>Fk N g a false c f d false b fun w=>cond (decide (w<0)) (r0 0 false []) (cond ((decide (0≤(a:Int)))&&((decide ((a:Int)≤(a:Int)))&&((decide ((a:Int)≤140737488355328))&&(decide (((a:Int)*((4:Nat):Int))≤140737488355328))))) (q0 f d a g 0 (a:Int) 0 (replicate a (.int .u32 0))) none))
def NO:=(Af fun N l m o c p q r b r0=>fl (R:=R) N r0 (fun f d a g=>Rq N r0 f d b a g c N) l m o c p q r b).1
theorem cT (l m o c p q r b r0):(@NO R N l m o c p q r b r0)=(fl N r0 (fun f d a g=>Rq N r0 f d b a g c N) l m o c p q r b):=by rw[NO,(Af _).2]
def yN:Hints:={ H:=(hK 5 (hS (hK 1 (hS (hP [1,6,7,22,23,24] hL) hL)) hL)),nils:=[(4,1)],modes:=[(2,1),(0,0)] }
def Afw:N0:=[Gb N,Qi N]
def Ao0 (F:KF R):=Hh Tryz.f261 yN (Afw N) [] N F
def Ao1 (f:LA) (d:Nat) (b:Bool) (a:Nat) (g:LA) (c:Bool) (K:St→O R):=fun j s h i=>K ⟨[(1,(.imm f d 1 false b)),(6,(.own 300000 0 a)),(7,(.int .u64 j)),(22,(.imm g a 1 false c)),(23,(iv s)),(24,(iv h))],(hq [(bQ 1 i)])⟩
theorem Abd (F:KF R) (f d b a g c):∀ n,Ao1 f d b a g c (Ao (Ao0 N F (pz 87364) []) n)=(Rq N (IG F) f d b a g c n):=D3 fun n e=>(Bn (DK N (IG F) f d b a g c) e:_)
def si:=Bj N 261 (Afw N) yN (fun
 | [(.imm l m 1 o c),(.imm p q 1 r b)],[]=>some fun _ k=>NO N l m o c p q r b (IG k)
 | _,_=>none) fun _ _=>by split;intro R F;exact(Bn (fl N (IG F) · _ _ _ _ _ _ _ _) (Ah5 fun f d a g=>(lW ..).trans (Abd ..)):_).trans (cT ..).symm;trivial
def TS (a:LA) (b:Nat) (i c:Bool) (d:Int) (e:LA) (f:Nat) (j g:Bool) (h:Int) (r0:Nat→LA→O R):O R :=
 (Bu N d fun l p=>cS N a b false c (p.take (l*1)) l false true fun m q=>Bu N h fun n r=>cS N e f false g (r.take (n*1)) n false true fun o s=>NO N (q.take (m*1)) m false true (s.take (o*1)) o false true fun t v u=>r0 t u)
def G4:=(Af (@TS R)).1
theorem TT:@G4 R=@TS R:=(Af _).2
def Abe:=Bj N 248 [Hp N,Afv N,si N] { H:=hL,nils:=[(8,1)],modes:=[(2,1)] } (fun
 | [(.imm a b 1 i c),(.int .u64 d),(.imm e f 1 j g),(.int .u64 h)],[]=>some fun _ k=>G4 N a b i c d e f j g h (Ca k)
 | _,_=>none) fun _ _=>by split;intro R F;dsimp only;rw[TT];kernel_rfl;trivial
end
end Gx
namespace Gx
open Go Go.Proofs
section
variable {R:Type}
def H7 (x y:Nat):Int:=if x<y then -1 else if y<x then 1 else 0
theorem JU (x:Nat):H7 x x=0:=by unfold H7;simp
theorem NP {a b:Nat} (h:(Al a).length<(Al b).length):a<b:=A5g fun e=>by
 have:=Bb e;omega
theorem pu {u w p q P:Nat} (e:u<P) (j:w<P) (h:p<q):u+P*p<w+P*q:=by
 have:P*(p+1)≤P*q:=A0w _ h
 rw[A0h] at this
 omega
theorem yO {N:Nat} {x y:List Nat} {t u:Bool} {K:Int→O R} (k:Ak x) (n:Ak y) (hs:x.length≤1000000000000) (s:x.length=y.length):∀ (i fuel:Nat),i≤x.length→i<fuel →
  E6 N K (Ag x) x.length t (Ag y) y.length u fuel ((i:Int) - 1)=K (H7 (val (x.take i)) (val (y.take i)))
 | 0,fuel+1,_,_=>by
  rw[E6];unfold Mn
  rw[show decide ((((0:Nat):Int) - 1)≥0)=false by simp,cf]
  simp[JU]
 | i+1,fuel+1,hi,v=>by
  rw[E6];unfold Mn
  rw[show(((i+1:Nat):Int) - 1)=(i:Int) by omega,show decide ((i:Int)≥0)=true by simp,ct,Aa (by omega),ct,QA (by omega),Aa (by omega),ct,QA (by omega),ct,QA (by omega),ct,QA (by omega),i64 (by omega),
   yO k n hs s i fuel (by omega) (by omega),Av (by omega),Av (by omega)]
  have e:=B6 (Ch k i)
  have j:=B6 (Ch n i)
  rw[A0o,A0x (by omega)] at e j
  by_cases c1:x[i]<y[i]
  ·have:=pu e j c1
   rw[show decide (((x[i]:Nat):Int)<((y[i]:Nat):Int))=true by simp;exact c1,ct]
   unfold H7;rw[if_pos this]
  ·by_cases q:y[i]<x[i]
   ·have:=pu j e q
    rw[show decide (((x[i]:Nat):Int)<((y[i]:Nat):Int))=false by simp;omega,cf,show decide (((x[i]:Nat):Int)>((y[i]:Nat):Int))=true by simp;exact q,ct]
    unfold H7;rw[if_neg (by omega),if_pos this]
   ·have:x[i]=y[i]:=by omega
    rw[show decide (((x[i]:Nat):Int)<((y[i]:Nat):Int))=false by simp;omega,cf,show decide (((x[i]:Nat):Int)>((y[i]:Nat):Int))=false by simp;omega,cf,this]
    unfold H7
    congr 1
    by_cases a1:val (x.take i)<val (y.take i)
    ·rw[if_pos a1,if_pos (by omega)]
    ·by_cases a2:val (y.take i)<val (x.take i)
     ·rw[if_neg a1,if_pos a2,if_neg (by omega),if_pos (by omega)]
     ·rw[if_neg a1,if_neg a2,if_neg (by omega),if_neg (by omega)]
theorem BI {N:Nat} {a b:List Nat} {n m:Nat} {t o t' o':Bool} {K:Int→O R} (hn:n=a.length) (s:m=b.length) (j:Ak a) (k:Ak b) (e:fit (a.length+b.length) N) :
  Fk N (Ag a) n t o (Ag b) m t' o' K=K (H7 (val a) (val b)):=by
 subst hn s
 have v:=e.1;have z:=e.2
 rw[FN];unfold Tj
 dsimp only
 rw[Bp rfl j (e.le (by omega)),Bp rfl k (e.le (by omega))]
 have la:=(Ba j).2
 have lb:=(Ba k).2
 by_cases q:(Al (val a)).length=(Al (val b)).length
 ·rw[show((((Al (val a)).length:Nat):Int) != (((Al (val b)).length:Nat):Int))=false by simp;omega,cf,i64 (by omega),yO (Ad _) (Ad _) (by omega) q _ N (Az3 _) (by omega),A06,q,A06,Ah,Ah]
 ·rw[show((((Al (val a)).length:Nat):Int) != (((Al (val b)).length:Nat):Int))=true by simp;omega,ct]
  by_cases u:(Al (val a)).length<(Al (val b)).length
  ·have:=NP u
   rw[show decide ((((Al (val a)).length:Nat):Int)<(((Al (val b)).length:Nat):Int))=true by simp;omega,ct]
   unfold H7;rw[if_pos this]
  ·have:=NP (show(Al (val b)).length<(Al (val a)).length by omega)
   rw[show decide ((((Al (val a)).length:Nat):Int)<(((Al (val b)).length:Nat):Int))=false by simp;omega,cf]
   unfold H7;rw[if_neg (by omega),if_pos this]
theorem sj {N:Nat} {a:List Nat} {n:Nat} {t o:Bool} {K:Int→O R} (hn:n=a.length) (k:Ak a) (e:fit a.length N):Vn N (Ag a) n t o K=K (H7 (val a) 0):=by
 subst hn
 have q:=e.1;have s:=e.2
 rw[TJ];unfold FL
 dsimp only
 rw[Bp rfl k e,Aow (by omega)]
 by_cases j:val a=0
 ·rw[j,Cz,JU]
  cases N with
  | zero=>omega
  | succ N =>
   rw[Pr];unfold DA
   rw[i64 (by simp)];simp
 ·have u:(Al (val a)).length≠0:=fun h=>j (Bf.1 h)
  rw[show((((Al (val a)).length:Nat):Int) != (0:Int))=true by simp;exact fun h=>j (sF.1 h),ct]
  rw[show decide ((((Al (val a)).length:Nat):Int)<(0:Int))=false by simp,cf]
  unfold H7;rw[if_neg (by omega),if_pos (by omega)]
end
end Gx
